/- A STORE OF A NUMBER INTO A SLICE THAT THE CALL MADE AND THAT IS READ-ONLY SINCE: every slice of the call's own may then hold another number here or there. -/
import Derived.Test.YtcfcmafmdpbjoaaDoorZtg
import Derived.Test.YtcfcmafmdpbjoaaDoorZtf
/- LAW 24, THE WALKS: the numbers of two lists, each once. -/
set_option linter.unusedSimpArgs false
set_option linter.unusedVariables false
namespace Go.Proofs.YtcfcmafmdpbjoaaDoor
namespace Pv
noncomputable def c55L1 : C := (.seq (.reg [⟨(some 12), 192, none, .bi false .lss (.t 11) (.t 10)⟩])
  (.seq (.cond (.t 12) .skip (.exit 0))
  (.seq (.block 1 (.seq (.reg [⟨(some 13), 208, none, .ia 1 (.t 9) (.t 11)⟩,
    ⟨(some 14), 224, none, .ld 1 false (.t 13)⟩,
    ⟨(some 5), 80, none, .mv (.t 14)⟩])
  (.seq (.reg [⟨(some 15), 240, none, .mv (.t 3)⟩,
    ⟨(some 16), 256, none, .mv (.t 5)⟩,
    ⟨(some 17), 272, none, .len (.t 16)⟩,
    ⟨(some 18), 288, none, .bi false .add (.t 15) (.t 17)⟩,
    ⟨(some 3), 48, none, .mv (.t 18)⟩])
  (.seq (.reg [⟨(some 19), 304, none, .mv (.t 3)⟩,
    ⟨(some 20), 320, none, .bi false .lss (.t 19) (.c (.int .i64 0))⟩])
  (.cond (.t 20) (.raw (rawAt Tryd.prog false Tryd.f55 0)) .skip)))))
  (.reg [⟨(some 22), 352, none, .bi false .add (.t 11) (.c (.int .i64 1))⟩,
    ⟨(some 11), 176, none, .mv (.t 22)⟩]))))
noncomputable def c55L2 : C := (.seq (.reg [⟨(some 28), 448, none, .bi false .lss (.t 27) (.t 26)⟩])
  (.seq (.cond (.t 28) .skip (.exit 2))
  (.seq (.block 3 (.seq (.reg [⟨(some 29), 464, none, .ia 1 (.t 25) (.t 27)⟩,
    ⟨(some 30), 480, none, .ld 1 false (.t 29)⟩,
    ⟨(some 8), 128, none, .mv (.t 30)⟩])
  (.reg [⟨(some 31), 496, none, .mv (.t 6)⟩,
    ⟨(some 32), 512, none, .mv (.t 8)⟩,
    ⟨(some 33), 528, none, .app 3 1 8 (.t 31) (.t 32)⟩,
    ⟨(some 6), 96, none, .mv (.t 33)⟩])))
  (.reg [⟨(some 34), 544, none, .bi false .add (.t 27) (.c (.int .i64 1))⟩,
    ⟨(some 27), 432, none, .mv (.t 34)⟩]))))
noncomputable def c55 : C := (.seq (.reg [⟨(some 2), 32, none, .mv (.c (.nil 1))⟩])
  (.seq (.reg [⟨(some 3), 48, none, .mv (.c (.int .i64 0))⟩])
  (.seq (.seq (.reg [⟨(some 9), 144, none, .mv (.t 0)⟩,
    ⟨(some 10), 160, none, .len (.t 9)⟩,
    ⟨(some 11), 176, none, .mv (.c (.int .i64 0))⟩])
  (.block 0 (.loop c55L1)))
  (.seq (.reg [⟨(some 23), 368, none, .mv (.t 3)⟩,
    ⟨(some 24), 384, none, .call (.c (.fn (.func 66) [] [])) [(.c (.nil 1)), (.t 23)]⟩,
    ⟨(some 6), 96, none, .mv (.t 24)⟩])
  (.seq (.seq (.reg [⟨(some 25), 400, none, .mv (.t 0)⟩,
    ⟨(some 26), 416, none, .len (.t 25)⟩,
    ⟨(some 27), 432, none, .mv (.c (.int .i64 0))⟩])
  (.block 2 (.loop c55L2)))
  (.seq (.cut (.reg [⟨(some 35), 560, none, .mv (.t 6)⟩,
    ⟨(some 2), 32, none, .mv (.t 35)⟩]))
  .ret))))))
theorem fits55 : fits Tryd.prog false Tryd.f55 1 36 [(2, none)] = some c55.er := by kernel_rfl
def c45 : C := (.seq (.reg [⟨(some 4), 64, none, .mv (.c (.nil 1))⟩])
  (.seq (.reg [⟨(some 6), 96, none, .mv (.t 0)⟩,
    ⟨(some 7), 112, none, .mv (.t 1)⟩,
    ⟨(some 8), 128, none, .bs 22 1 [(.t 6), (.t 7)]⟩,
    ⟨(some 9), 144, none, .call (.c (.fn (.func 55) [] [])) [(.t 8)]⟩,
    ⟨(some 5), 80, none, .mv (.t 9)⟩])
  (.seq (.cut (.reg [⟨(some 10), 160, none, .mv (.t 5)⟩,
    ⟨(some 11), 176, none, .call (.c (.fn (.func 56) [] [])) [(.t 10)]⟩]))
  (.seq (.cut (.reg [⟨(some 12), 192, none, .mv (.t 5)⟩,
    ⟨(some 13), 208, none, .call (.c (.fn (.func 57) [] [])) [(.t 12)]⟩,
    ⟨(some 4), 64, none, .mv (.t 13)⟩]))
  .ret))))
theorem fits45 : fits Tryd.prog false Tryd.f45 2 14 [(4, none)] = some c45.er := by kernel_rfl
def twoR (l m : List Int) : Nat → List PV := fun i => [[PV.sl 2 1 l.length (fl eInt l)], [.sl 2 1 m.length (fl eInt m)]].getD i []
def szN (l m : List Int) : Nat → Nat
  | 0 => 0
  | 1 => l.length
  | _ => l.length + m.length
def accN (l m : List Int) : Nat → List Int
  | 0 => []
  | 1 => l
  | _ => l ++ m
set_option maxRecDepth 100000 in
set_option maxHeartbeats 8000000 in
theorem call55 (l m : List Int) (hl : l.length ≤ 1000000) (hm : m.length ≤ 1000000) : PureCall Tryd.prog 55 [.sl 2 1 2 (twoR l m)] [] ⟨.os 1000000000, [], [.row 0 3 1 (l ++ m).length (fl eInt (l ++ m))]⟩ := by
  refine pure_call mix Tryd.func55 fits55 rfl ?_
  conv => whnf
  refine ⟨trivial, ?_⟩
  refine LSem.loop (n := 36) mix (α := Nat) (fun i => i ≤ 2)
    (fun i => [(0, .sl 2 1 2 (twoR l m)), (3, .int .i64 (szN l m i)), (9, .sl 2 1 2 (twoR l m)), (10, .int .i64 2), (11, .int .i64 i)])
    (fun i => []) (fun i => 2 - i) 0 ?_ ?_ ?_
  · exact Nat.zero_le _
  · refine ⟨rfl, rfl, ?_, ?_⟩
    all_goals repeat' (first | exact True.intro | refine leF_cons rfl ?_ ?_ | refine leS_cons rfl ?_ ?_ | (show PLe _ _ _ _; conv => whnf) | (show SLe _ _ _ _; conv => whnf) | (show PLeL _ _ _ _; conv => whnf) | apply And.intro | rfl | exact Nat.le_refl _ | exact fun _ _ => rfl | exact rowEq0 _ _)
  · intro i hi
    have h012 : i = 0 ∨ i = 1 ∨ i = 2 := by omega
    rcases h012 with rfl | rfl | rfl
    · conv => whnf
      refine ⟨trivial, fun _ => ?_, fun hc => absurd hc (by decide)⟩
      conv => whnf
      refine ⟨?_, fun hc => ?_, fun hc => ?_⟩
      · (try conv => whnf)
        (repeat' (first | exact True.intro | refine inR64_of ?_ ?_ | apply And.intro | refine maxLen_ge ?_))
        all_goals (try simp only [szN])
        all_goals first | omega | skip
      · have h : decide ((0 : Int) + (l.length : Int) < 0) = true := hc
        have h2 := of_decide_eq_true h
        omega
      · conv => whnf
        refine ⟨?_, 1, by omega, ?_, rfl, rfl, ?_, ?_⟩
        · (try conv => whnf)
          (repeat' (first | exact True.intro | refine inR64_of ?_ ?_ | apply And.intro | refine maxLen_ge ?_))
          all_goals (try simp only [szN])
          all_goals first | omega | skip
        · omega
        all_goals repeat' (first | exact True.intro | refine leF_cons rfl ?_ ?_ | refine leS_cons rfl ?_ ?_ | (show PLe _ _ _ _; conv => whnf) | (show SLe _ _ _ _; conv => whnf) | (show PLeL _ _ _ _; conv => whnf) | apply And.intro | rfl | exact Nat.le_refl _ | exact fun _ _ => rfl | exact rowEq0 _ _)
        all_goals first | (show ((0 : Nat) : Int) + (l.length : Int) = (l.length : Int); omega) | skip
    · conv => whnf
      refine ⟨trivial, fun _ => ?_, fun hc => absurd hc (by decide)⟩
      conv => whnf
      refine ⟨?_, fun hc => ?_, fun hc => ?_⟩
      · (try conv => whnf)
        (repeat' (first | exact True.intro | refine inR64_of ?_ ?_ | apply And.intro | refine maxLen_ge ?_))
        all_goals (try simp only [szN])
        all_goals first | omega | skip
      · have h : decide ((l.length : Int) + (m.length : Int) < 0) = true := hc
        have h2 := of_decide_eq_true h
        omega
      · conv => whnf
        refine ⟨?_, 2, by omega, ?_, rfl, rfl, ?_, ?_⟩
        · (try conv => whnf)
          (repeat' (first | exact True.intro | refine inR64_of ?_ ?_ | apply And.intro | refine maxLen_ge ?_))
          all_goals (try simp only [szN])
          all_goals first | omega | skip
        · omega
        all_goals repeat' (first | exact True.intro | refine leF_cons rfl ?_ ?_ | refine leS_cons rfl ?_ ?_ | (show PLe _ _ _ _; conv => whnf) | (show SLe _ _ _ _; conv => whnf) | (show PLeL _ _ _ _; conv => whnf) | apply And.intro | rfl | exact Nat.le_refl _ | exact fun _ _ => rfl | exact rowEq0 _ _)
        all_goals first | (show _ = ((l.length + m.length : Nat) : Int); omega) | skip
    · conv => whnf
      refine ⟨trivial, fun hc => absurd hc (by decide), fun _ => ?_⟩
      conv => whnf
      refine ⟨_, fun _ => call66 (l.length + m.length) (by omega), ?_⟩
      conv => whnf
      refine ⟨?_, ?_⟩
      · exact g0
      refine LSem.loop (n := 36) mix (α := Nat) (fun i => i ≤ 2)
        (fun i => [(6, .os 384), (25, .sl 2 1 2 (twoR l m)), (26, .int .i64 2), (27, .int .i64 i)])
        (fun i => [(384, .row 2 3 1 (accN l m i).length (fl eInt (accN l m i)))]) (fun i => 2 - i) 0 ?_ ?_ ?_
      · exact Nat.zero_le _
      · refine ⟨rfl, rfl, ?_, ?_⟩
        all_goals repeat' (first | exact True.intro | refine leF_cons rfl ?_ ?_ | refine leS_cons rfl ?_ ?_ | (show PLe _ _ _ _; conv => whnf) | (show SLe _ _ _ _; conv => whnf) | (show PLeL _ _ _ _; conv => whnf) | apply And.intro | rfl | exact Nat.le_refl _ | exact fun _ _ => rfl | exact rowEq0 _ _)
        all_goals first | exact Nat.zero_le _ | skip
      · intro i hi
        have h012 : i = 0 ∨ i = 1 ∨ i = 2 := by omega
        rcases h012 with rfl | rfl | rfl
        · conv => whnf
          refine ⟨trivial, fun _ => ?_, fun hc => absurd hc (by decide)⟩
          conv => whnf
          refine ⟨?_, 1, by omega, ?_, rfl, rfl, ?_, ?_⟩
          · (try conv => whnf)
            (repeat' (first | exact True.intro | refine inR64_of ?_ ?_ | apply And.intro | refine maxLen_ge ?_))
            all_goals (try simp only [accN, List.length_nil])
            all_goals first | omega | skip
          · omega
          all_goals repeat' (first | exact True.intro | refine leF_cons rfl ?_ ?_ | refine leS_cons rfl ?_ ?_ | (show PLe _ _ _ _; conv => whnf) | (show SLe _ _ _ _; conv => whnf) | (show PLeL _ _ _ _; conv => whnf) | apply And.intro | rfl | exact Nat.le_refl _ | exact fun _ _ => rfl | exact rowEq0 _ _)
          all_goals first | exact fl_append eInt [] l | (simp [accN]; done) | omega | skip
        · conv => whnf
          refine ⟨trivial, fun _ => ?_, fun hc => absurd hc (by decide)⟩
          conv => whnf
          refine ⟨?_, 2, by omega, ?_, rfl, rfl, ?_, ?_⟩
          · (try conv => whnf)
            (repeat' (first | exact True.intro | refine inR64_of ?_ ?_ | apply And.intro | refine maxLen_ge ?_))
            all_goals (try simp only [accN])
            all_goals first | omega | skip
          · omega
          all_goals repeat' (first | exact True.intro | refine leF_cons rfl ?_ ?_ | refine leS_cons rfl ?_ ?_ | (show PLe _ _ _ _; conv => whnf) | (show SLe _ _ _ _; conv => whnf) | (show PLeL _ _ _ _; conv => whnf) | apply And.intro | rfl | exact Nat.le_refl _ | exact fun _ _ => rfl | exact rowEq0 _ _)
          all_goals first | exact fl_append eInt l m | (simp [accN]; done) | omega | skip
        · conv => whnf
          refine ⟨trivial, fun hc => absurd hc (by decide), fun _ => ?_⟩
          conv => whnf
          refine ⟨trivial, ?_⟩
          refine LSem.untag 384 2 3 _ (l ++ m) rfl (fun _ _ => rfl) ?_
          refine LSem.of_vc mix ?_
          conv => whnf
          refine ⟨trivial, [384], ?_⟩
          conv => whnf
          refine ⟨rfl, ?_, trivial, ?_⟩
          all_goals repeat' (first | exact True.intro | refine leF_cons rfl ?_ ?_ | refine leS_cons rfl ?_ ?_ | (show PLe _ _ _ _; conv => whnf) | (show SLe _ _ _ _; conv => whnf) | (show PLeL _ _ _ _; conv => whnf) | apply And.intro | rfl | exact Nat.le_refl _ | exact fun _ _ => rfl | exact rowEq0 _ _)
def srt (l : List Int) : List Int := l.mergeSort fun x y => decide (x ≤ y)
theorem srt_len (l : List Int) : (srt l).length = l.length := List.length_mergeSort ..
def bothF (l m : List Int) : List Int := Lib.compact (srt (l ++ m))
set_option maxRecDepth 100000 in
set_option maxHeartbeats 8000000 in
theorem call45 (l m : List Int) (hl : l.length ≤ 1000000) (hm : m.length ≤ 1000000) (h0 : 0 < l.length) : PureCall Tryd.prog 45 [.sl 2 1 l.length (fl eInt l), .sl 2 1 m.length (fl eInt m)] [] ⟨.sl 0 1 (bothF l m).length (fl eInt (bothF l m)), [], []⟩ := by
  have hlen : (l ++ m).length = l.length + m.length := List.length_append
  refine pure_call mix Tryd.func45 fits45 rfl ?_
  conv => whnf
  refine ⟨_, fun _ => call55 l m hl hm, ?_⟩
  conv => whnf
  refine ⟨⟨trivial, trivial⟩, LSem.inplace (sort_inplace (l ++ m) (by omega)) (by omega) (fun _ => List.length_mergeSort ..) rfl rfl (fun _ _ => rfl) rfl rfl ?_⟩
  conv => whnf
  refine ⟨trivial, LSem.inplace (compact_inplace (srt (l ++ m)) (by rw [srt_len]; omega)) (by rw [srt_len]; omega) (fun h => by cases h) rfl rfl (fun _ _ => rfl) rfl rfl ?_⟩
  conv => whnf
  refine ⟨?_, [], ?_⟩
  · exact g0
  conv => whnf
  refine ⟨rfl, ?_, trivial, trivial⟩
  all_goals repeat' (first | exact True.intro | refine leF_cons rfl ?_ ?_ | refine leS_cons rfl ?_ ?_ | (show PLe _ _ _ _; conv => whnf) | (show SLe _ _ _ _; conv => whnf) | (show PLeL _ _ _ _; conv => whnf) | apply And.intro | rfl | exact Nat.le_refl _ | exact fun _ _ => rfl | exact rowEq0 _ _)
end Pv
end Go.Proofs.YtcfcmafmdpbjoaaDoor
/- LAW 24, THE WALKS: the table of two tables. -/
set_option linter.unusedSimpArgs false
set_option linter.unusedVariables false
namespace Go.Proofs.YtcfcmafmdpbjoaaDoor
namespace Pv
def c24L2 : C := (.seq (.reg [⟨(some 59), 944, none, .bi false .lss (.t 58) (.t 57)⟩])
  (.seq (.cond (.t 59) .skip (.exit 2))
  (.seq (.block 3 (.seq (.reg [⟨(some 60), 960, none, .ia 1 (.t 56) (.t 58)⟩,
    ⟨(some 61), 976, none, .ld 1 false (.t 60)⟩,
    ⟨(some 13), 208, none, .mv (.t 61)⟩])
  (.drw [⟨(some 62), 992, none, .mv (.t 11)⟩,
    ⟨(some 63), 1008, none, .ld 3 true (.t 2)⟩,
    ⟨(some 64), 1024, none, .mv (.t 10)⟩,
    ⟨(some 65), 1040, none, .mv (.t 13)⟩,
    ⟨(some 66), 1056, none, .call (.c (.fn (.func 39) [] [])) [(.t 63), (.t 64), (.t 65)]⟩,
    ⟨(some 67), 1072, none, .ld 3 true (.t 3)⟩,
    ⟨(some 68), 1088, none, .mv (.t 10)⟩,
    ⟨(some 69), 1104, none, .mv (.t 13)⟩,
    ⟨(some 70), 1120, none, .call (.c (.fn (.func 39) [] [])) [(.t 67), (.t 68), (.t 69)]⟩,
    ⟨(some 71), 1136, none, .mx [(.t 66), (.t 70)]⟩,
    ⟨(some 72), 1152, none, .bs 3 1 [(.t 71)]⟩,
    ⟨(some 73), 1168, none, .app 3 1 8 (.t 62) (.t 72)⟩,
    ⟨(some 11), 176, none, .mv (.t 73)⟩]
    [(0, 1, 62), (0, 2, 62), (0, 3, 62), (0, 4, 62), (0, 5, 62), (0, 6, 62), (0, 7, 62), (0, 8, 62), (0, 9, 62), (0, 10, 62), (1, 2, 63), (1, 3, 63), (1, 5, 63), (1, 6, 63), (1, 7, 63), (2, 3, 64), (2, 5, 64), (2, 6, 64), (2, 7, 64), (3, 5, 65), (3, 6, 65), (3, 7, 65), (4, 5, 66), (4, 6, 66), (4, 7, 66), (5, 6, 67), (5, 7, 67), (6, 7, 68)])))
  (.reg [⟨(some 74), 1184, none, .bi false .add (.t 58) (.c (.int .i64 1))⟩,
    ⟨(some 58), 928, none, .mv (.t 74)⟩]))))
def c24L1 : C := (.seq (.reg [⟨(some 52), 832, none, .bi false .lss (.t 51) (.t 50)⟩])
  (.seq (.cond (.t 52) .skip (.exit 0))
  (.seq (.block 1 (.seq (.reg [⟨(some 53), 848, none, .ia 1 (.t 49) (.t 51)⟩,
    ⟨(some 54), 864, none, .ld 1 false (.t 53)⟩,
    ⟨(some 10), 160, none, .mv (.t 54)⟩])
  (.seq (.reg [⟨(some 11), 176, none, .mv (.c (.nil 1))⟩])
  (.seq (.seq (.reg [⟨(some 55), 880, none, .fa 1 (.t 8)⟩,
    ⟨(some 56), 896, none, .ld 1 false (.t 55)⟩,
    ⟨(some 57), 912, none, .len (.t 56)⟩,
    ⟨(some 58), 928, none, .mv (.c (.int .i64 0))⟩])
  (.block 2 (.loop c24L2)))
  (.reg [⟨(some 75), 1200, none, .fa 2 (.t 8)⟩,
    ⟨(some 76), 1216, none, .ld 1 false (.t 75)⟩,
    ⟨(some 77), 1232, none, .mv (.t 11)⟩,
    ⟨(some 78), 1248, none, .bs 22 1 [(.t 77)]⟩,
    ⟨(some 79), 1264, none, .app 22 1 24 (.t 76) (.t 78)⟩,
    ⟨(some 80), 1280, none, .fa 2 (.t 8)⟩,
    ⟨none, 0, none, .st 1 (.t 80) (.t 79)⟩])))))
  (.reg [⟨(some 81), 1296, none, .bi false .add (.t 51) (.c (.int .i64 1))⟩,
    ⟨(some 51), 816, none, .mv (.t 81)⟩]))))
def c24 : C := (.seq (.reg [⟨(some 2), 32, none, .bx 3 (.t 0)⟩,
    ⟨(some 3), 48, none, .bx 3 (.t 1)⟩,
    ⟨(some 4), 64, none, .al [(.nil 1), (.nil 1), (.nil 1)]⟩,
    ⟨(some 5), 80, none, .mv (.c (.int .i64 0))⟩])
  (.seq (.seq (.reg [⟨(some 14), 224, none, .ld 3 true (.t 2)⟩,
    ⟨(some 15), 240, none, .call (.c (.fn (.func 22) [] [])) [(.t 14)]⟩,
    ⟨(some 6), 96, none, .mv (.t 15)⟩])
  (.seq (.reg [⟨(some 16), 256, none, .mv (.t 6)⟩,
    ⟨(some 17), 272, none, .bi false .neq (.t 16) (.c (.int .i64 0))⟩])
  (.cond (.t 17) (.seq (.reg [⟨(some 18), 288, none, .bd [(.nil 1), (.nil 1), (.nil 1)] []⟩,
    ⟨(some 19), 304, none, .mv (.t 6)⟩,
    ⟨none, 0, none, .st 3 (.t 4) (.t 18)⟩,
    ⟨(some 5), 80, none, .mv (.t 19)⟩])
  .ret) .skip)))
  (.seq (.seq (.reg [⟨(some 20), 320, none, .ld 3 true (.t 3)⟩,
    ⟨(some 21), 336, none, .call (.c (.fn (.func 22) [] [])) [(.t 20)]⟩,
    ⟨(some 7), 112, none, .mv (.t 21)⟩])
  (.seq (.reg [⟨(some 22), 352, none, .mv (.t 7)⟩,
    ⟨(some 23), 368, none, .bi false .neq (.t 22) (.c (.int .i64 0))⟩])
  (.cond (.t 23) (.seq (.reg [⟨(some 24), 384, none, .bd [(.nil 1), (.nil 1), (.nil 1)] []⟩,
    ⟨(some 25), 400, none, .mv (.t 7)⟩,
    ⟨none, 0, none, .st 3 (.t 4) (.t 24)⟩,
    ⟨(some 5), 80, none, .mv (.t 25)⟩])
  .ret) .skip)))
  (.seq (.drw [⟨(some 26), 416, none, .fa 0 (.t 2)⟩,
    ⟨(some 27), 432, none, .ld 1 false (.t 26)⟩,
    ⟨(some 28), 448, none, .fa 0 (.t 3)⟩,
    ⟨(some 29), 464, none, .ld 1 false (.t 28)⟩,
    ⟨(some 30), 480, none, .call (.c (.fn (.func 45) [] [])) [(.t 27), (.t 29)]⟩,
    ⟨(some 31), 496, none, .fa 1 (.t 2)⟩,
    ⟨(some 32), 512, none, .ld 1 false (.t 31)⟩,
    ⟨(some 33), 528, none, .fa 1 (.t 3)⟩,
    ⟨(some 34), 544, none, .ld 1 false (.t 33)⟩,
    ⟨(some 35), 560, none, .call (.c (.fn (.func 45) [] [])) [(.t 32), (.t 34)]⟩,
    ⟨(some 36), 576, none, .bd [(.nil 1), (.nil 1), (.nil 1)] [(0, 1, (.t 30)), (1, 1, (.t 35))]⟩,
    ⟨(some 8), 128, none, .al [(.nil 1), (.nil 1), (.nil 1)]⟩,
    ⟨none, 0, none, .st 3 (.t 8) (.t 36)⟩]
    [(0, 2, 26), (0, 3, 26), (0, 5, 26), (0, 6, 26), (0, 7, 26), (0, 8, 26), (0, 11, 26), (1, 2, 27), (1, 3, 27), (1, 5, 27), (1, 6, 27), (1, 7, 27), (1, 8, 27), (1, 11, 27), (2, 5, 28), (2, 6, 28), (2, 7, 28), (2, 8, 28), (2, 11, 28), (3, 5, 29), (3, 6, 29), (3, 7, 29), (3, 8, 29), (3, 11, 29), (4, 5, 30), (4, 6, 30), (4, 7, 30), (4, 8, 30), (4, 11, 30), (5, 7, 31), (5, 8, 31), (5, 11, 31), (6, 7, 32), (6, 8, 32), (6, 11, 32), (7, 11, 33), (8, 11, 34), (9, 11, 35), (10, 11, 36)])
  (.seq (.seq (.reg [⟨(some 37), 592, none, .fa 0 (.t 8)⟩,
    ⟨(some 38), 608, none, .ld 1 false (.t 37)⟩,
    ⟨(some 39), 624, none, .len (.t 38)⟩,
    ⟨(some 40), 640, none, .bi false .gtr (.t 39) (.c (.int .i64 20))⟩,
    ⟨(some 41), 656, none, .mv (.t 40)⟩,
    ⟨(some 42), 672, (some (41, false)), .fa 1 (.t 8)⟩,
    ⟨(some 43), 688, (some (41, false)), .ld 1 false (.t 42)⟩,
    ⟨(some 44), 704, (some (41, false)), .len (.t 43)⟩,
    ⟨(some 45), 720, (some (41, false)), .bi false .gtr (.t 44) (.c (.int .i64 20))⟩,
    ⟨(some 46), 736, none, .pick (.t 41) (.c (.bool true)) (.t 45)⟩])
  (.cond (.t 46) (.seq (.reg [⟨(some 47), 752, none, .bd [(.nil 1), (.nil 1), (.nil 1)] []⟩,
    ⟨none, 0, none, .st 3 (.t 4) (.t 47)⟩,
    ⟨(some 5), 80, none, .mv (.c (.int .i64 42))⟩])
  .ret) .skip))
  (.seq (.seq (.reg [⟨(some 48), 768, none, .fa 0 (.t 8)⟩,
    ⟨(some 49), 784, none, .ld 1 false (.t 48)⟩,
    ⟨(some 50), 800, none, .len (.t 49)⟩,
    ⟨(some 51), 816, none, .mv (.c (.int .i64 0))⟩])
  (.block 0 (.loop c24L1)))
  (.seq (.reg [⟨(some 82), 1312, none, .ld 3 true (.t 8)⟩,
    ⟨none, 0, none, .st 3 (.t 4) (.t 82)⟩,
    ⟨(some 5), 80, none, .mv (.c (.int .i64 0))⟩])
  .ret)))))))
theorem fits24 : fits Tryd.prog false Tryd.f24 2 83 [(4, some (3, true)), (5, none)] = some c24.er := by kernel_rfl
def cellJ (a b : FT) (lv q : Int) : Int := mx (atF a lv q) (atF b lv q)
def rowJ (a b : FT) (I : List Int) (lv : Int) : List Int := I.map (cellJ a b lv)
def joinF (a b : FT) : FT × Int :=
  if checkF a ≠ 0 then (FT0, checkF a) else if checkF b ≠ 0 then (FT0, checkF b)
  else if 20 < (bothF a.lv b.lv).length ∨ 20 < (bothF a.inf b.inf).length then (FT0, 42)
  else (⟨bothF a.lv b.lv, bothF a.inf b.inf, (bothF a.lv b.lv).map (rowJ a b (bothF a.inf b.inf))⟩, 0)
theorem map_take {α β : Type} [Inhabited α] {l : List α} {f : α → β} {i : Nat} (h : i < l.length) : (l.take (i + 1)).map f = (l.take i).map f ++ [f (l.getD i default)] := by
  rw [← take_push h, List.map_append]; rfl
theorem map_take_len {α β : Type} {l : List α} {f : α → β} {i : Nat} (h : i ≤ l.length) : ((l.take i).map f).length = i := by
  rw [List.length_map, List.length_take]; omega
set_option maxRecDepth 100000 in
set_option maxHeartbeats 16000000 in
theorem call24 (σ σ' : Nat) (a b : FT) (a1 : a.lv.length ≤ 4611686018427387904) (a2 : a.inf.length ≤ 4611686018427387904) (a3 : a.rel.length ≤ 4611686018427387904) (a4 : ∀ i, i < a.rel.length → (a.rel.getD i default).length ≤ 4611686018427387904)
    (b1 : b.lv.length ≤ 4611686018427387904) (b2 : b.inf.length ≤ 4611686018427387904) (b3 : b.rel.length ≤ 4611686018427387904) (b4 : ∀ i, i < b.rel.length → (b.rel.getD i default).length ≤ 4611686018427387904) :
    PureCall Tryd.prog 24 [.agg (eFT 2 σ a), .agg (eFT 2 σ' b)] [] ⟨.tup [.agg (eFT 0 0 (joinF a b).1), .int .i64 (joinF a b).2], [], []⟩ := by
  refine pure_call mix Tryd.func24 fits24 rfl ?_
  conv => whnf
  refine ⟨_, fun _ => call22 2 σ a a1 a2 a3 a4, ?_⟩
  have hoka := check_ok (t := a)
  have hokb := check_ok (t := b)
  unfold joinF
  generalize checkF a = E1 at hoka ⊢
  conv => whnf
  refine ⟨?_, fun hc => ?_, fun hc => ?_⟩
  · exact g0
  · simp only [bp] at hc
    rw [if_pos hc]
    conv => whnf
    refine ⟨?_, [], ?_⟩
    · exact g0
    conv => whnf
    refine ⟨rfl, ?_, trivial, trivial⟩
    all_goals repeat' (first | exact True.intro | refine leF_cons rfl ?_ ?_ | refine leS_cons rfl ?_ ?_ | (show PLe _ _ _ _; conv => whnf) | (show SLe _ _ _ _; conv => whnf) | (show PLeL _ _ _ _; conv => whnf) | apply And.intro | rfl | exact Nat.le_refl _ | exact fun _ _ => rfl | exact rowEq0 _ _)
  simp only [bp] at hc
  rw [if_neg (by omega)]
  have ha := hoka (by omega)
  conv => whnf
  refine ⟨_, fun _ => call22 2 σ' b b1 b2 b3 b4, ?_⟩
  generalize checkF b = E2 at hokb ⊢
  conv => whnf
  refine ⟨?_, fun hc2 => ?_, fun hc2 => ?_⟩
  · exact g0
  · simp only [bp] at hc2
    rw [if_pos hc2]
    conv => whnf
    refine ⟨?_, [], ?_⟩
    · exact g0
    conv => whnf
    refine ⟨rfl, ?_, trivial, trivial⟩
    all_goals repeat' (first | exact True.intro | refine leF_cons rfl ?_ ?_ | refine leS_cons rfl ?_ ?_ | (show PLe _ _ _ _; conv => whnf) | (show SLe _ _ _ _; conv => whnf) | (show PLeL _ _ _ _; conv => whnf) | apply And.intro | rfl | exact Nat.le_refl _ | exact fun _ _ => rfl | exact rowEq0 _ _)
  simp only [bp] at hc2
  rw [if_neg (by omega)]
  have hb := hokb (by omega)
  have la1 := ha.l1
  have la2 := ha.l2
  have lb1 := hb.l1
  have lb2 := hb.l2
  conv => whnf
  refine ⟨_, fun _ => call45 a.lv b.lv (by omega) (by omega) (by omega), ?_⟩
  conv => whnf
  refine ⟨_, fun _ => call45 a.inf b.inf (by omega) (by omega) (by omega), ?_⟩
  generalize bothF a.lv b.lv = L
  generalize bothF a.inf b.inf = I
  conv => whnf
  refine ⟨rfl, ?_⟩
  conv => whnf
  refine ⟨?_, fun hc3 => ?_, fun hc3 => ?_⟩
  · exact g0
  · simp only [bp] at hc3
    rw [if_pos (by omega)]
    conv => whnf
    refine ⟨?_, [], ?_⟩
    · exact g0
    conv => whnf
    refine ⟨rfl, ?_, trivial, trivial⟩
    all_goals repeat' (first | exact True.intro | refine leF_cons rfl ?_ ?_ | refine leS_cons rfl ?_ ?_ | (show PLe _ _ _ _; conv => whnf) | (show SLe _ _ _ _; conv => whnf) | (show PLeL _ _ _ _; conv => whnf) | apply And.intro | rfl | exact Nat.le_refl _ | exact fun _ _ => rfl | exact rowEq0 _ _)
  simp only [bp] at hc3
  rw [if_neg (by omega)]
  conv => whnf
  refine ⟨?_, ?_⟩
  · exact g0
  refine LSem.adoptF 128 2 1000001 22 1 1 _ rfl rfl rfl ?_
  refine LSem.loop (n := 83) mix (α := Nat) (fun i => i ≤ L.length)
    (fun i => [(2, .pt 32 0 0), (3, .pt 48 0 0), (4, .pt 64 0 0), (8, .pt 128 0 0), (49, .sl 0 1 L.length (fl eInt L)), (50, .int .i64 L.length), (51, .int .i64 i)])
    (fun i => [(32, .box [.sl 2 1 a.lv.length (fl eInt a.lv), .sl 2 1 a.inf.length (fl eInt a.inf), .sl 2 1 a.rel.length (fl (eIs σ) a.rel)]), (48, .box [.sl 2 1 b.lv.length (fl eInt b.lv), .sl 2 1 b.inf.length (fl eInt b.inf), .sl 2 1 b.rel.length (fl (eIs σ') b.rel)]),
      (64, .box [.nil 1, .nil 1, .nil 1]), (128, .box [.sl 0 1 L.length (fl eInt L), .sl 0 1 I.length (fl eInt I), .os 1000001]), (1000001, .row 0 22 1 ((L.take i).map (rowJ a b I)).length (fl (eIs 0) ((L.take i).map (rowJ a b I))))]) (fun i => L.length - i) 0 ?_ ?_ ?_
  · exact Nat.zero_le _
  · refine ⟨rfl, rfl, ?_, ?_⟩
    all_goals repeat' (first | exact True.intro | refine leF_cons rfl ?_ ?_ | refine leS_cons rfl ?_ ?_ | (show PLe _ _ _ _; conv => whnf) | (show SLe _ _ _ _; conv => whnf) | (show PLeL _ _ _ _; conv => whnf) | apply And.intro | rfl | exact Nat.le_refl _ | exact fun _ _ => rfl | exact rowEq0 _ _)
  · intro i hi
    have hj : ((i : Int)).toNat = i := by omega
    have hrl := map_take_len (f := rowJ a b I) hi
    conv => whnf
    refine ⟨trivial, fun hc4 => ?_, fun hc4 => ?_⟩
    · replace hc4 := of_decide_eq_true hc4
      have hlt : i < L.length := by
        have h : (i : Int) < L.length := hc4
        omega
      have hst := map_take (f := rowJ a b I) hlt
      conv => whnf
      rw [hj]
      generalize L.getD i default = lv at hst ⊢
      refine ⟨?_, ?_⟩
      · exact g0
      refine LSem.adopt 11 1000000 3 1 1 rfl rfl ?_
      refine LSem.loop (n := 83) mix (α := Nat) (fun k => k ≤ I.length)
        (fun k => [(2, .pt 32 0 0), (3, .pt 48 0 0), (4, .pt 64 0 0), (8, .pt 128 0 0), (10, .int .i64 lv), (11, .os 1000000), (49, .sl 0 1 L.length (fl eInt L)), (50, .int .i64 L.length), (51, .int .i64 i), (56, .sl 0 1 I.length (fl eInt I)), (57, .int .i64 I.length), (58, .int .i64 k)])
        (fun k => [(32, .box [.sl 2 1 a.lv.length (fl eInt a.lv), .sl 2 1 a.inf.length (fl eInt a.inf), .sl 2 1 a.rel.length (fl (eIs σ) a.rel)]), (48, .box [.sl 2 1 b.lv.length (fl eInt b.lv), .sl 2 1 b.inf.length (fl eInt b.inf), .sl 2 1 b.rel.length (fl (eIs σ') b.rel)]),
          (64, .box [.nil 1, .nil 1, .nil 1]), (128, .box [.sl 0 1 L.length (fl eInt L), .sl 0 1 I.length (fl eInt I), .os 1000001]), (1000001, .row 0 22 1 ((L.take i).map (rowJ a b I)).length (fl (eIs 0) ((L.take i).map (rowJ a b I)))),
          (1000000, .row 0 3 1 ((I.take k).map (cellJ a b lv)).length (fl eInt ((I.take k).map (cellJ a b lv))))]) (fun k => I.length - k) 0 ?_ ?_ ?_
      · exact Nat.zero_le _
      · refine ⟨rfl, rfl, ?_, ?_⟩
        all_goals repeat' (first | exact True.intro | refine leF_cons rfl ?_ ?_ | refine leS_cons rfl ?_ ?_ | (show PLe _ _ _ _; conv => whnf) | (show SLe _ _ _ _; conv => whnf) | (show PLeL _ _ _ _; conv => whnf) | apply And.intro | rfl | exact Nat.le_refl _ | exact fun _ _ => rfl | exact rowEq0 _ _)
      · intro k hk
        have hj2 : ((k : Int)).toNat = k := by omega
        have hil := map_take_len (f := cellJ a b lv) hk
        conv => whnf
        refine ⟨trivial, fun hc5 => ?_, fun hc5 => ?_⟩
        · replace hc5 := of_decide_eq_true hc5
          have hlt2 : k < I.length := by
            have h : (k : Int) < I.length := hc5
            omega
          have hst2 := map_take (f := cellJ a b lv) hlt2
          have q := fl_push eInt ((I.take k).map (cellJ a b lv)) (cellJ a b lv (I.getD k default))
          rw [← hst2] at q
          have hil2 := map_take_len (f := cellJ a b lv) (i := k + 1) hlt2
          conv => whnf
          rw [hj2]
          refine ⟨_, fun _ => call39 1 σ a lv (I.getD k default) ha, ?_⟩
          conv => whnf
          refine ⟨_, fun _ => call39 1 σ' b lv (I.getD k default) hb, ?_⟩
          conv => whnf
          refine ⟨rfl, ?_⟩
          conv => whnf
          refine ⟨?_, k + 1, hlt2, ?_, rfl, rfl, ?_, ?_⟩
          · (try conv => whnf)
            (repeat' (first | exact True.intro | exact fun _ h => h | refine inR64_of ?_ ?_ | apply And.intro | refine maxLen_ge ?_))
            all_goals (try simp only [hil, List.length_cons, List.length_nil])
            all_goals first | omega | skip
          · omega
          all_goals repeat' (first | exact True.intro | refine leF_cons rfl ?_ ?_ | refine leS_cons rfl ?_ ?_ | (show PLe _ _ _ _; conv => whnf) | (show SLe _ _ _ _; conv => whnf) | (show PLeL _ _ _ _; conv => whnf) | apply And.intro | rfl | exact Nat.le_refl _ | exact fun _ _ => rfl | exact rowEq0 _ _)
          all_goals first | exact q | (rw [hil2, hil]; rfl) | omega | skip
        · replace hc5 := of_decide_eq_false hc5
          have hk2 : k = I.length := by
            have h : ¬ (k : Int) < I.length := hc5
            omega
          subst hk2
          rw [List.take_length]
          have q := fl_push (eIs 0) ((L.take i).map (rowJ a b I)) (rowJ a b I lv)
          rw [← hst] at q
          have hrl2 := map_take_len (f := rowJ a b I) (i := i + 1) hlt
          conv => whnf
          refine ⟨?_, i + 1, hlt, ?_, rfl, rfl, ?_, ?_⟩
          · (try conv => whnf)
            (repeat' (first | exact True.intro | exact fun _ h => h | refine inR64_of ?_ ?_ | apply And.intro | refine maxLen_ge ?_))
            all_goals (try simp only [hrl, List.length_cons, List.length_nil])
            all_goals first | omega | skip
          · omega
          all_goals repeat' (first | exact True.intro | refine leF_cons rfl ?_ ?_ | refine leS_cons rfl ?_ ?_ | (show PLe _ _ _ _; conv => whnf) | (show SLe _ _ _ _; conv => whnf) | (show PLeL _ _ _ _; conv => whnf) | apply And.intro | rfl | exact Nat.le_refl _ | exact fun _ _ => rfl | exact rowEq0 _ _)
          all_goals first | exact q | (rw [hrl2, hrl]; rfl) | omega | skip
    · replace hc4 := of_decide_eq_false hc4
      have hk : i = L.length := by
        have h : ¬ (i : Int) < L.length := hc4
        omega
      subst hk
      rw [List.take_length]
      conv => whnf
      refine ⟨?_, [], ?_⟩
      · exact g0
      conv => whnf
      refine ⟨rfl, ?_, trivial, trivial⟩
      all_goals repeat' (first | exact True.intro | refine leF_cons rfl ?_ ?_ | refine leS_cons rfl ?_ ?_ | (show PLe _ _ _ _; conv => whnf) | (show SLe _ _ _ _; conv => whnf) | (show PLeL _ _ _ _; conv => whnf) | apply And.intro | rfl | exact Nat.le_refl _ | exact fun _ _ => rfl | exact rowEq0 _ _)
end Pv
end Go.Proofs.YtcfcmafmdpbjoaaDoor
/- LAW 24, PLAIN: what the table of two tables releases. -/
set_option linter.unusedSimpArgs false
set_option linter.unusedVariables false
namespace Go.Proofs.YtcfcmafmdpbjoaaDoor
namespace Pv
theorem srt_sorted (l : List Int) : (srt l).Pairwise (· ≤ ·) := by
  have := List.pairwise_mergeSort (le := fun x y : Int => decide (x ≤ y)) (fun a b c h1 h2 => by simp at *; omega) (fun a b => by simp; omega) l
  exact this.imp fun h => by simpa using h
theorem srt_mem (l : List Int) (x : Int) : x ∈ srt l ↔ x ∈ l := List.mem_mergeSort
theorem compact_inc (l : List Int) (h : l.Pairwise (· ≤ ·)) : (Lib.compact l).Pairwise (· < ·) := by
  unfold Lib.compact Lib.compactUpTo
  rw [List.pairwise_map]
  have hr : (List.range l.length).Pairwise (· < ·) := List.pairwise_lt_range
  have hf := hr.filter (Lib.keeps l.toArray)
  refine List.Pairwise.imp_of_mem ?_ hf
  intro i j hi hj hij
  rw [List.mem_filter, List.mem_range] at hi hj
  have hk := hj.2
  have hget : ∀ k, k < l.length → l.toArray[k]! = l.getD k default := fun k hk => by simp [hk]
  have hle : ∀ p q, p < q → q < l.length → l.getD p default ≤ l.getD q default := fun p q hp hq => by
    have := List.pairwise_iff_getElem.1 h p q (by omega) hq hp
    rw [List.getD_eq_getElem?_getD, List.getD_eq_getElem?_getD, List.getElem?_eq_getElem hq, List.getElem?_eq_getElem (by omega)]; exact this
  unfold Lib.keeps at hk
  rw [hget i hi.1, hget j hj.1]
  have h2 : l.getD (j - 1) default ≤ l.getD j default := hle (j - 1) j (by omega) hj.1
  have h3 : l.getD i default ≤ l.getD (j - 1) default := by
    by_cases e : i = j - 1
    · rw [e]; exact Int.le_refl _
    · exact hle i (j - 1) (by omega) (by omega)
  rw [hget j hj.1, hget (j - 1) (by omega)] at hk
  have hne : l.getD j default ≠ l.getD (j - 1) default := by
    rcases of_decide_eq_true hk with h0 | h0
    · omega
    · exact h0
  omega
theorem compact_mem (l : List Int) (x : Int) : x ∈ Lib.compact l ↔ x ∈ l := by
  have hget : ∀ k, k < l.length → l.toArray[k]! = l.getD k default := fun k hk => by simp [hk]
  unfold Lib.compact Lib.compactUpTo
  rw [List.mem_map]
  constructor
  · rintro ⟨j, hj, rfl⟩
    rw [List.mem_filter, List.mem_range] at hj
    rw [hget j hj.1]; exact getD_mem hj.1
  · intro hx
    obtain ⟨i, hi, rfl⟩ := List.getElem_of_mem hx
    have key : ∀ i, i < l.length → ∃ j, j < l.length ∧ Lib.keeps l.toArray j = true ∧ l.getD j default = l.getD i default := by
      intro i
      induction i with
      | zero => intro hi; exact ⟨0, hi, by simp [Lib.keeps], rfl⟩
      | succ i ih =>
        intro hi
        cases hk : Lib.keeps l.toArray (i + 1) with
        | true => exact ⟨i + 1, hi, hk, rfl⟩
        | false =>
          unfold Lib.keeps at hk
          have h1 := of_decide_eq_false hk
          rw [hget _ hi, hget (i + 1 - 1) (by omega)] at h1
          obtain ⟨j, h2, h3, h4⟩ := ih (by omega)
          refine ⟨j, h2, h3, ?_⟩
          rw [h4]
          rw [Nat.add_sub_cancel] at h1
          by_cases e : l.getD (i + 1) default = l.getD i default
          · exact e.symm
          · exact absurd (.inr e) h1
    obtain ⟨j, h2, h3, h4⟩ := key i hi
    refine ⟨j, by rw [List.mem_filter, List.mem_range]; exact ⟨h2, h3⟩, ?_⟩
    rw [hget j h2, h4, List.getD_eq_getElem?_getD, List.getElem?_eq_getElem hi]; rfl
/-! ### ascending numbers -/
def Asc (l : List Int) : Prop := ∀ i j, i < j → j < l.length → l.getD i default < l.getD j default
theorem asc_pair {l : List Int} (h : l.Pairwise (· < ·)) : Asc l := fun i j hij hj => by
  have := List.pairwise_iff_getElem.1 h i j (by omega) hj hij
  rw [List.getD_eq_getElem?_getD, List.getD_eq_getElem?_getD, List.getElem?_eq_getElem hj, List.getElem?_eq_getElem (by omega)]; exact this
theorem both_asc (l m : List Int) : Asc (bothF l m) := asc_pair (compact_inc _ (srt_sorted _))
theorem both_mem (l m : List Int) (x : Int) : x ∈ bothF l m ↔ x ∈ l ∨ x ∈ m := by
  unfold bothF
  rw [compact_mem, srt_mem, List.mem_append]
theorem both_len (l m : List Int) : (bothF l m).length ≤ l.length + m.length := by
  have h : (Lib.compact (srt (l ++ m))).length ≤ (srt (l ++ m)).length := by
    unfold Lib.compact Lib.compactUpTo
    rw [List.length_map]
    exact Nat.le_trans (List.length_filter_le ..) (by simp)
  rw [srt_len, List.length_append] at h
  exact h
theorem rise_asc {l : List Int} {most : Int} (h : ∀ i, i < l.length → riseE l most i = 0) : Asc l := fun i j hij hj => by
  have key : ∀ k, i + k + 1 < l.length → l.getD i default < l.getD (i + k + 1) default := by
    intro k
    induction k with
    | zero =>
      intro hk
      have h2 := h (i + 1) hk
      unfold riseE at h2
      split at h2
      · cases h2
      · split at h2
        · cases h2
        · rename_i h3
          rw [show i + 1 - 1 = i by omega] at h3
          rw [show i + 0 + 1 = i + 1 by omega]
          omega
    | succ k ih =>
      intro hk
      have h1 := ih (by omega)
      have h2 := h (i + (k + 1) + 1) hk
      unfold riseE at h2
      split at h2
      · cases h2
      · split at h2
        · cases h2
        · rename_i h3
          rw [show i + (k + 1) + 1 - 1 = i + k + 1 by omega] at h3
          omega
  have := key (j - i - 1) (by omega)
  rw [show i + (j - i - 1) + 1 = j by omega] at this
  exact this
theorem asc_rise {l : List Int} {most : Int} (h : Asc l) (hr : ∀ x ∈ l, 0 ≤ x ∧ x ≤ most) : ∀ i, i < l.length → riseE l most i = 0 := fun i hi => by
  have h1 := hr _ (getD_mem hi)
  unfold riseE
  rw [if_neg (by omega), if_neg]
  rintro ⟨h0, h2⟩
  have := h (i - 1) i (by omega) hi
  omega
def PlaceAt (l : List Int) (x : Int) (p : Nat) : Prop := p < l.length ∧ (p = 0 ∨ l.getD p default ≤ x) ∧ ∀ i, p < i → i < l.length → x < l.getD i default
theorem place_at {l : List Int} (h : Asc l) (h0 : 0 < l.length) (x : Int) : ∃ p : Nat, placeF l x = p ∧ PlaceAt l x p := by
  have hs := fstN_spec (p := fun i => x < l.getD i default) (k := l.length) (i := 0)
  have hl := fstN_le (fun i => x < l.getD i default) l.length 0
  unfold placeF
  generalize fstN (fun i => x < l.getD i default) 0 l.length = r at hs hl ⊢
  cases r with
  | zero =>
    refine ⟨0, by unfold mx; split <;> omega, h0, .inl rfl, fun i h1 h2 => ?_⟩
    have h3 : x < l.getD 0 default := hs.2 (by omega)
    have h4 := h 0 i h1 h2
    omega
  | succ r =>
    refine ⟨r, by unfold mx; split <;> omega, by omega, .inr ?_, fun i h1 h2 => ?_⟩
    · have := hs.1 r (Nat.zero_le _) (by omega)
      omega
    · have h3 : x < l.getD (r + 1) default := hs.2 (by omega)
      by_cases e : i = r + 1
      · rw [e]; exact h3
      · have h4 := h (r + 1) i (by omega) h2
        omega
theorem place_uniq {l : List Int} {x : Int} {p q : Nat} (hp : PlaceAt l x p) (hq : PlaceAt l x q) : p = q := by
  obtain ⟨a1, a2, a3⟩ := hp
  obtain ⟨b1, b2, b3⟩ := hq
  rcases Nat.lt_trichotomy p q with h | h | h
  · have := a3 q h b1
    rcases b2 with b2 | b2 <;> omega
  · exact h
  · have := b3 p h a1
    rcases a2 with a2 | a2 <;> omega
theorem place_sub {A L : List Int} (hA : Asc A) (hL : Asc L) (hs : ∀ x ∈ A, x ∈ L) (h0 : 0 < A.length) (x : Int) {p : Nat} (hp : PlaceAt L x p) : placeF A (L.getD p default) = placeF A x := by
  obtain ⟨c1, c2, c3⟩ := hp
  obtain ⟨q, e, d1, d2, d3⟩ := place_at hA h0 (L.getD p default)
  obtain ⟨q', e', hq'⟩ := place_at hA h0 x
  have hidx : ∀ i, i < A.length → ∃ j, j < L.length ∧ L.getD j default = A.getD i default := fun i hi => by
    obtain ⟨j, hj, h⟩ := List.getElem_of_mem (hs _ (getD_mem hi))
    exact ⟨j, hj, by rw [List.getD_eq_getElem?_getD, List.getElem?_eq_getElem hj]; exact h⟩
  have hmono : ∀ i j, i < L.length → j < L.length → L.getD i default < L.getD j default → i < j := fun i j hi hj h => by
    rcases Nat.lt_trichotomy i j with h1 | h1 | h1
    · exact h1
    · subst h1; omega
    · have := hL j i h1 hi; omega
  have hpl : PlaceAt A x q := by
    refine ⟨d1, ?_, fun i h1 h2 => ?_⟩
    · by_cases hq0 : q = 0
      · exact .inl hq0
      · right
        have d2' : A.getD q default ≤ L.getD p default := by rcases d2 with h | h; · exact absurd h hq0
                                                             · exact h
        rcases c2 with hp0 | hpx
        · subst hp0
          obtain ⟨j, hj, hjv⟩ := hidx 0 h0
          have h3 := hA 0 q (by omega) d1
          have h4 : L.getD j default < L.getD 0 default := by omega
          have := hmono j 0 hj c1 h4
          omega
        · omega
    · have h3 := d3 i h1 h2
      obtain ⟨j, hj, hjv⟩ := hidx i h2
      have h4 := hmono p j c1 hj (by omega)
      have := c3 j h4 hj
      omega
  rw [e, e', place_uniq hpl hq']
theorem mx_le {a b a' b' : Int} (h1 : a ≤ a') (h2 : b ≤ b') : mx a b ≤ mx a' b' := by unfold mx; split <;> split <;> omega
theorem map_getD {α β : Type} [Inhabited α] [Inhabited β] {l : List α} {f : α → β} {i : Nat} (h : i < l.length) : (l.map f).getD i default = f (l.getD i default) := by
  rw [List.getD_eq_getElem?_getD, List.getElem?_map, getD_some h]; rfl
theorem at_rng {t : FT} (h : TabOK t) (x y : Int) : 0 ≤ atF t x y ∧ atF t x y ≤ 1073741824 := by
  have hl1 := h.l1
  have hl2 := h.l2
  have hl3 := h.l3
  have p1 := place_rng x (l := t.lv) (by omega)
  have p2 := place_rng y (l := t.inf) (by omega)
  have hr := h.row (i := (placeF t.lv x).toNat) (by omega)
  exact h.cell (i := (placeF t.lv x).toNat) (by omega) (by omega)
theorem cellJ_rng {a b : FT} (ha : TabOK a) (hb : TabOK b) (x y : Int) : 0 ≤ cellJ a b x y ∧ cellJ a b x y ≤ 1073741824 := by
  have h1 := at_rng ha x y
  have h2 := at_rng hb x y
  unfold cellJ mx
  split <;> omega
theorem cellJ_mono {a b : FT} (ha : TabOK a) (hb : TabOK b) {x y x' y' : Int} (h1 : x ≤ x') (h2 : y ≤ y') : cellJ a b x y ≤ cellJ a b x' y' := mx_le (at_mono ha h1 h2) (at_mono hb h1 h2)
structure JoinOK (a b c : FT) : Prop where
  oa : TabOK a
  ob : TabOK b
  lv : c.lv = bothF a.lv b.lv
  inf : c.inf = bothF a.inf b.inf
  rel : c.rel = (bothF a.lv b.lv).map (rowJ a b (bothF a.inf b.inf))
  n1 : (bothF a.lv b.lv).length ≤ 20
  n2 : (bothF a.inf b.inf).length ≤ 20
theorem rng_of {l : List Int} {most : Int} (h : ∀ i, i < l.length → 0 ≤ l.getD i default ∧ l.getD i default ≤ most) : ∀ x ∈ l, 0 ≤ x ∧ x ≤ most := fun x hx => by
  obtain ⟨i, hi, rfl⟩ := List.getElem_of_mem hx
  have := h i hi
  rw [List.getD_eq_getElem?_getD, List.getElem?_eq_getElem hi] at this
  exact this
theorem both_pos {l m : List Int} (h : 0 < l.length) : 0 < (bothF l m).length :=
  List.length_pos_of_mem ((both_mem l m _).2 (.inl (getD_mem h)))
theorem JoinOK.check {a b c : FT} (h : JoinOK a b c) : checkF c = 0 := by
  have a1 := h.oa.l1
  have a2 := h.oa.l2
  have p1 := both_pos (l := a.lv) (m := b.lv) (by omega)
  have p2 := both_pos (l := a.inf) (m := b.inf) (by omega)
  have n1 := h.n1
  have n2 := h.n2
  have s1 := both_asc a.lv b.lv
  have s2 := both_asc a.inf b.inf
  have r1 := asc_rise (most := 16777216) s1 fun x hx => by
    rcases (both_mem _ _ x).1 hx with h1 | h1
    · exact rng_of (fun i hi => h.oa.lvr hi) x h1
    · exact rng_of (fun i hi => h.ob.lvr hi) x h1
  have r2 := asc_rise (most := 1073741824) s2 fun x hx => by
    rcases (both_mem _ _ x).1 hx with h1 | h1
    · exact rng_of (fun i hi => h.oa.infr hi) x h1
    · exact rng_of (fun i hi => h.ob.infr hi) x h1
  have e1 := h.lv
  have e2 := h.inf
  have e3 := h.rel
  obtain ⟨clv, cinf, crel⟩ := c
  dsimp only at e1 e2 e3
  subst e1; subst e2; subst e3
  have oa := h.oa
  have ob := h.ob
  clear h
  generalize bothF a.lv b.lv = L at *
  generalize bothF a.inf b.inf = I at *
  have z3 : scan (relE ⟨L, I, L.map (rowJ a b I)⟩) 0 (L.map (rowJ a b I)).length = 0 := scan_none fun i _ hi => by
    rw [List.length_map] at hi
    have hrow : (L.map (rowJ a b I)).getD i default = rowJ a b I (L.getD i default) := map_getD (by omega)
    unfold relE rowF
    dsimp only
    rw [hrow]
    have hlen : (rowJ a b I (L.getD i default)).length = I.length := by unfold rowJ; rw [List.length_map]
    rw [if_neg (by omega)]
    refine scan_none fun k _ hk => ?_
    rw [hlen] at hk
    have hc : ∀ j, j < I.length → ∀ v, (rowJ a b I v).getD j default = cellJ a b v (I.getD j default) := fun j hj v => map_getD hj
    have hund : under (rowJ a b I (L.getD i default)) (abO (L.map (rowJ a b I)) i) k = false := by
      unfold under
      cases i with
      | zero => rfl
      | succ i =>
        show decide ((rowJ a b I (L.getD (i + 1) default)).getD k default < ((L.map (rowJ a b I)).getD i default).getD k default) = false
        rw [map_getD (by omega), hc k (by omega), hc k (by omega)]
        have hlt := s1 i (i + 1) (by omega) (by omega)
        have := cellJ_mono oa ob (x := L.getD i default) (x' := L.getD (i + 1) default) (y := I.getD k default) (y' := I.getD k default) (by omega) (Int.le_refl _)
        exact decide_eq_false (by omega)
    have hr := cellJ_rng oa ob (L.getD i default) (I.getD k default)
    unfold rowE
    rw [hund, hc k (by omega), if_neg (by omega), if_neg]
    rintro (⟨h1, h2⟩ | h)
    · rw [hc (k - 1) (by omega)] at h2
      have hlt := s2 (k - 1) k (by omega) (by omega)
      have := cellJ_mono oa ob (x := L.getD i default) (x' := L.getD i default) (y := I.getD (k - 1) default) (y' := I.getD k default) (Int.le_refl _) (by omega)
      omega
    · cases h
  have z1 : scan (riseE L 16777216) 0 L.length = 0 := scan_none fun k _ hk => r1 k (by omega)
  have z2 : scan (riseE I 1073741824) 0 I.length = 0 := scan_none fun k _ hk => r2 k (by omega)
  unfold checkF
  dsimp only
  rw [if_neg (by omega), z1, z2, z3]
  simp
theorem JoinOK.at_ {a b c : FT} (h : JoinOK a b c) (x y : Int) : atF c x y = mx (atF a x y) (atF b x y) := by
  have a1 := h.oa.l1
  have a2 := h.oa.l2
  have b1 := h.ob.l1
  have b2 := h.ob.l2
  obtain ⟨p, hp, hpa⟩ := place_at (both_asc a.lv b.lv) (both_pos (by omega)) x
  obtain ⟨q, hq, hqa⟩ := place_at (both_asc a.inf b.inf) (both_pos (by omega)) y
  have s1 := place_sub (rise_asc h.oa.r1) (both_asc a.lv b.lv) (fun z hz => (both_mem _ _ z).2 (.inl hz)) (by omega) x hpa
  have s2 := place_sub (rise_asc h.oa.r2) (both_asc a.inf b.inf) (fun z hz => (both_mem _ _ z).2 (.inl hz)) (by omega) y hqa
  have s3 := place_sub (rise_asc h.ob.r1) (both_asc a.lv b.lv) (fun z hz => (both_mem _ _ z).2 (.inr hz)) (by omega) x hpa
  have s4 := place_sub (rise_asc h.ob.r2) (both_asc a.inf b.inf) (fun z hz => (both_mem _ _ z).2 (.inr hz)) (by omega) y hqa
  have e : atF c x y = cellJ a b ((bothF a.lv b.lv).getD p default) ((bothF a.inf b.inf).getD q default) := by
    unfold atF
    rw [h.lv, h.inf, h.rel, hp, hq, Int.toNat_natCast, Int.toNat_natCast, map_getD hpa.1]
    exact map_getD hqa.1
  rw [e]
  unfold cellJ atF
  rw [s1, s2, s3, s4]
theorem join_ok {a b : FT} (ha : checkF a = 0) (hb : checkF b = 0) (h1 : a.lv.length + b.lv.length ≤ 20) (h2 : a.inf.length + b.inf.length ≤ 20) : (joinF a b).2 = 0 ∧ JoinOK a b (joinF a b).1 := by
  have n1 := both_len a.lv b.lv
  have n2 := both_len a.inf b.inf
  unfold joinF
  rw [if_neg (by omega), if_neg (by omega), if_neg (by omega)]
  exact ⟨rfl, check_ok ha, check_ok hb, rfl, rfl, rfl, by omega, by omega⟩
end Pv
end Go.Proofs.YtcfcmafmdpbjoaaDoor
/- LAW 24: joined tables release the greater (FloodtableJoins). -/
set_option linter.unusedSimpArgs false
set_option linter.unusedVariables false
namespace Go.Proofs.YtcfcmafmdpbjoaaDoor
namespace Pv
def c7L2 : C := (.seq (.reg [⟨(some 61), 976, none, .bi false .lss (.t 60) (.t 59)⟩])
  (.seq (.cond (.t 61) .skip (.exit 2))
  (.seq (.block 3 (.seq (.reg [⟨(some 62), 992, none, .ia 1 (.t 58) (.t 60)⟩,
    ⟨(some 63), 1008, none, .ld 1 false (.t 62)⟩,
    ⟨(some 15), 240, none, .mv (.t 63)⟩])
  (.seq (.reg [⟨(some 65), 1040, none, .ld 3 true (.t 8)⟩,
    ⟨(some 66), 1056, none, .mv (.t 13)⟩,
    ⟨(some 67), 1072, none, .mv (.t 15)⟩,
    ⟨(some 68), 1088, none, .call (.c (.fn (.func 19) [] [])) [(.t 65), (.t 66), (.t 67)]⟩,
    ⟨(some 64), 1024, none, .mv (.t 68)⟩,
    ⟨(some 69), 1104, none, .ex (.t 64) 0⟩,
    ⟨(some 70), 1120, none, .ex (.t 64) 1⟩,
    ⟨(some 16), 256, none, .mv (.t 69)⟩,
    ⟨(some 17), 272, none, .mv (.t 70)⟩])
  (.seq (.reg [⟨(some 72), 1152, none, .ld 3 true (.t 9)⟩,
    ⟨(some 73), 1168, none, .mv (.t 13)⟩,
    ⟨(some 74), 1184, none, .mv (.t 15)⟩,
    ⟨(some 75), 1200, none, .call (.c (.fn (.func 19) [] [])) [(.t 72), (.t 73), (.t 74)]⟩,
    ⟨(some 71), 1136, none, .mv (.t 75)⟩,
    ⟨(some 76), 1216, none, .ex (.t 71) 0⟩,
    ⟨(some 77), 1232, none, .ex (.t 71) 1⟩,
    ⟨(some 18), 288, none, .mv (.t 76)⟩,
    ⟨(some 19), 304, none, .mv (.t 77)⟩])
  (.seq (.reg [⟨(some 79), 1264, none, .ld 3 true (.t 10)⟩,
    ⟨(some 80), 1280, none, .mv (.t 13)⟩,
    ⟨(some 81), 1296, none, .mv (.t 15)⟩,
    ⟨(some 82), 1312, none, .call (.c (.fn (.func 19) [] [])) [(.t 79), (.t 80), (.t 81)]⟩,
    ⟨(some 78), 1248, none, .mv (.t 82)⟩,
    ⟨(some 83), 1328, none, .ex (.t 78) 0⟩,
    ⟨(some 84), 1344, none, .ex (.t 78) 1⟩,
    ⟨(some 20), 320, none, .mv (.t 83)⟩,
    ⟨(some 21), 336, none, .mv (.t 84)⟩])
  (.seq (.reg [⟨(some 85), 1360, none, .mv (.t 21)⟩,
    ⟨(some 86), 1376, none, .bi false .neq (.t 85) (.c (.int .i64 0))⟩,
    ⟨(some 87), 1392, none, .mv (.t 86)⟩,
    ⟨(some 88), 1408, (some (87, false)), .mv (.t 20)⟩,
    ⟨(some 89), 1424, (some (87, false)), .mv (.t 16)⟩,
    ⟨(some 90), 1440, (some (87, false)), .mv (.t 18)⟩,
    ⟨(some 91), 1456, (some (87, false)), .mx [(.t 89), (.t 90)]⟩,
    ⟨(some 92), 1472, (some (87, false)), .bi false .neq (.t 88) (.t 91)⟩,
    ⟨(some 93), 1488, none, .pick (.t 87) (.c (.bool true)) (.t 92)⟩])
  (.cond (.t 93) (.seq (.reg [⟨(some 6), 96, none, .mv (.c (.bool false))⟩])
  .ret) .skip)))))))
  (.reg [⟨(some 94), 1504, none, .bi false .add (.t 60) (.c (.int .i64 1))⟩,
    ⟨(some 60), 960, none, .mv (.t 94)⟩]))))
def c7L1 : C := (.seq (.reg [⟨(some 50), 800, none, .bi false .lss (.t 49) (.t 48)⟩])
  (.seq (.cond (.t 50) .skip (.exit 0))
  (.seq (.block 1 (.seq (.reg [⟨(some 51), 816, none, .ia 1 (.t 47) (.t 49)⟩,
    ⟨(some 52), 832, none, .ld 1 false (.t 51)⟩,
    ⟨(some 13), 208, none, .mv (.t 52)⟩])
  (.seq (.reg [⟨(some 53), 848, none, .mv (.t 2)⟩,
    ⟨(some 54), 864, none, .cv false .i64 (.t 53)⟩,
    ⟨(some 55), 880, none, .mv (.t 2)⟩,
    ⟨(some 56), 896, none, .cv false .i64 (.t 55)⟩,
    ⟨(some 57), 912, none, .bi false .rem (.t 56) (.c (.int .i64 20))⟩,
    ⟨(some 58), 928, none, .bs 3 1 [(.t 54), (.t 57)]⟩,
    ⟨(some 59), 944, none, .len (.t 58)⟩,
    ⟨(some 60), 960, none, .mv (.c (.int .i64 0))⟩])
  (.block 2 (.loop c7L2)))))
  (.reg [⟨(some 95), 1520, none, .bi false .add (.t 49) (.c (.int .i64 1))⟩,
    ⟨(some 49), 784, none, .mv (.t 95)⟩]))))
def c7 : C := (.seq (.reg [⟨(some 6), 96, none, .mv (.c (.bool false))⟩])
  (.seq (.seq (.reg [⟨(some 22), 352, none, .call (.c (.fn (.func 8) [] [])) []⟩,
    ⟨(some 23), 368, none, .un false .not (.t 22)⟩])
  (.cond (.t 23) (.seq (.reg [⟨(some 6), 96, none, .mv (.c (.bool false))⟩])
  .ret) .skip))
  (.seq (.seq (.reg [⟨(some 24), 384, none, .mv (.t 0)⟩,
    ⟨(some 25), 400, none, .call (.c (.fn (.func 9) [] [])) [(.t 24)]⟩,
    ⟨(some 26), 416, none, .un false .not (.t 25)⟩])
  (.cond (.t 26) (.seq (.reg [⟨(some 6), 96, none, .mv (.c (.bool true))⟩])
  .ret) .skip))
  (.seq (.reg [⟨(some 27), 432, none, .mv (.t 0)⟩,
    ⟨(some 28), 448, none, .call (.c (.fn (.func 12) [] [])) [(.t 27)]⟩,
    ⟨(some 7), 112, none, .mv (.t 28)⟩])
  (.seq (.reg [⟨(some 29), 464, none, .mv (.t 7)⟩,
    ⟨(some 30), 480, none, .call (.c (.fn (.func 11) [] [])) [(.t 29)]⟩,
    ⟨(some 31), 496, none, .mv (.t 7)⟩,
    ⟨(some 32), 512, none, .call (.c (.fn (.func 11) [] [])) [(.t 31)]⟩,
    ⟨(some 8), 128, none, .al [(.nil 1), (.nil 1), (.nil 1)]⟩,
    ⟨(some 9), 144, none, .al [(.nil 1), (.nil 1), (.nil 1)]⟩,
    ⟨none, 0, none, .st 3 (.t 8) (.t 30)⟩,
    ⟨none, 0, none, .st 3 (.t 9) (.t 32)⟩])
  (.seq (.reg [⟨(some 34), 544, none, .ld 3 true (.t 8)⟩,
    ⟨(some 35), 560, none, .ld 3 true (.t 9)⟩,
    ⟨(some 36), 576, none, .call (.c (.fn (.func 24) [] [])) [(.t 34), (.t 35)]⟩,
    ⟨(some 33), 528, none, .mv (.t 36)⟩,
    ⟨(some 37), 592, none, .ex (.t 33) 0⟩,
    ⟨(some 38), 608, none, .ex (.t 33) 1⟩,
    ⟨(some 10), 160, none, .al [(.nil 1), (.nil 1), (.nil 1)]⟩,
    ⟨none, 0, none, .st 3 (.t 10) (.t 37)⟩,
    ⟨(some 11), 176, none, .mv (.t 38)⟩])
  (.seq (.seq (.reg [⟨(some 39), 624, none, .mv (.t 11)⟩,
    ⟨(some 40), 640, none, .bi false .neq (.t 39) (.c (.int .i64 0))⟩])
  (.cond (.t 40) (.seq (.reg [⟨(some 6), 96, none, .mv (.c (.bool false))⟩])
  .ret) .skip))
  (.seq (.seq (.reg [⟨(some 41), 656, none, .mv (.t 1)⟩,
    ⟨(some 42), 672, none, .cv false .i64 (.t 41)⟩,
    ⟨(some 43), 688, none, .mv (.t 1)⟩,
    ⟨(some 44), 704, none, .cv false .i64 (.t 43)⟩,
    ⟨(some 45), 720, none, .bi false .rem (.t 44) (.c (.int .i64 60))⟩,
    ⟨(some 46), 736, none, .bi false .add (.c (.int .i64 90)) (.t 45)⟩,
    ⟨(some 47), 752, none, .bs 3 1 [(.t 42), (.t 46)]⟩,
    ⟨(some 48), 768, none, .len (.t 47)⟩,
    ⟨(some 49), 784, none, .mv (.c (.int .i64 0))⟩])
  (.block 0 (.loop c7L1)))
  (.seq (.reg [⟨(some 96), 1536, none, .ld 3 true (.t 10)⟩,
    ⟨(some 97), 1552, none, .call (.c (.fn (.func 22) [] [])) [(.t 96)]⟩,
    ⟨(some 98), 1568, none, .bi false .eql (.t 97) (.c (.int .i64 0))⟩,
    ⟨(some 6), 96, none, .mv (.t 98)⟩])
  .ret)))))))))
theorem fits7 : fits Tryd.prog false Tryd.f7 3 99 [(6, none)] = some c7.er := by kernel_rfl
theorem row_at {up : Option (List Int)} : ∀ (m : Nat) (l : List Int) (d : Dk), (it (cellN up) m (l, d)).2.at_ ≤ d.at_ + m
  | 0, l, d => Nat.le_refl _
  | m + 1, l, d => by
    have h := row_at (up := up) m (l ++ [cellX up (l, d)]) (nxtD d 8)
    have h2 := nxtD_at d 8
    show (it (cellN up) m (cellN up (l, d))).2.at_ ≤ _
    have e : cellN up (l, d) = (l ++ [cellX up (l, d)], nxtD d 8) := rfl
    rw [e]
    omega
theorem rel_at {n : Nat} : ∀ (m : Nat) (rel : List (List Int)) (d : Dk), (it (tabN n) m (rel, d)).2.at_ ≤ d.at_ + m * n
  | 0, rel, d => by show d.at_ ≤ _; omega
  | m + 1, rel, d => by
    have h := rel_at (n := n) m (tabN n (rel, d)).1 (tabN n (rel, d)).2
    have h2 := row_at (up := abO rel rel.length) n [] d
    have e : (tabN n (rel, d)).2.at_ = (it (cellN (abO rel rel.length)) n ([], d)).2.at_ := rfl
    have h3 : (it (tabN n) m (tabN n (rel, d))).2.at_ ≤ (tabN n (rel, d)).2.at_ + m * n := h
    show (it (tabN n) m (tabN n (rel, d))).2.at_ ≤ _
    rw [Nat.add_mul, Nat.one_mul]
    omega
theorem tab_at (d : Dk) : (tabF d).2.at_ ≤ d.at_ + 40 ∧ (tabF d).1.lv.length ≤ 4 ∧ (tabF d).1.inf.length ≤ 4 := by
  have a1 := axisS_at d 90 40
  have a2 := axisS_at (axisS d 90 40).d 0 12
  have h := rel_at (n := (axisS (axisS d 90 40).d 0 12).l.length) (axisS d 90 40).l.length [] (axisS (axisS d 90 40).d 0 12).d
  obtain ⟨e1, e2, e3⟩ := tabF_parts d
  rw [e1, e2]
  have hm : (axisS d 90 40).l.length * (axisS (axisS d 90 40).d 0 12).l.length ≤ 4 * 4 := Nat.mul_le_mul a1.2.2 a2.2.2
  refine ⟨?_, a1.2.2, a2.2.2⟩
  show (it (tabN (axisS (axisS d 90 40).d 0 12).l.length) (axisS d 90 40).l.length ([], (axisS (axisS d 90 40).d 0 12).d)).2.at_ ≤ _
  omega
theorem tab_rows {t : FT} (h : TabOK t) : ∀ i, i < t.rel.length → (t.rel.getD i default).length ≤ 4611686018427387904 := fun i hi => by
  have := h.row hi
  have := h.l2
  omega
theorem rel_ok {t : FT} {x y : Int} (h : checkF t = 0) (h1 : 0 ≤ x ∧ x ≤ 255) (h2 : 0 ≤ y ∧ y ≤ 255) : relF t x y = (atF t x y, 0) := by unfold relF; rw [if_neg (by omega), if_neg (by omega)]
def eT0 (t : FT) : List PV := [.sl 0 1 t.lv.length (fl eInt t.lv), .sl 0 1 t.inf.length (fl eInt t.inf), .sl 0 1 t.rel.length (fl (eIs 0) t.rel)]
set_option maxRecDepth 100000 in
set_option maxHeartbeats 16000000 in
theorem call7 (l : List Int) (level inflow : Int) (h1 : 0 ≤ level ∧ level ≤ 255) (h2 : 0 ≤ inflow ∧ inflow ≤ 255) : PureCall Tryd.prog 7 [.sl 1 1 l.length (fl eInt l), .int .u8 level, .int .u8 inflow] [] ⟨.bool true, [], []⟩ := by
  have m1 : 0 ≤ level.tmod 60 ∧ level.tmod 60 < 60 := ⟨Int.tmod_nonneg _ h1.1, Int.tmod_lt_of_pos _ (by decide)⟩
  have m2 : 0 ≤ inflow.tmod 20 ∧ inflow.tmod 20 < 20 := ⟨Int.tmod_nonneg _ h2.1, Int.tmod_lt_of_pos _ (by decide)⟩
  refine pure_call mix Tryd.func7 fits7 rfl ?_
  conv => whnf
  refine ⟨_, fun _ => call8, ?_⟩
  conv => whnf
  refine ⟨?_, fun h => absurd h Bool.false_ne_true, fun _ => ?_⟩
  · exact g0
  conv => whnf
  refine ⟨_, fun _ => call9 1 l, ?_⟩
  conv => whnf
  refine ⟨?_, fun hc => ?_, fun hc => ?_⟩
  · exact g0
  · conv => whnf
    refine ⟨?_, [], ?_⟩
    · exact g0
    conv => whnf
    refine ⟨rfl, ?_, trivial, trivial⟩
    all_goals repeat' (first | exact True.intro | refine leF_cons rfl ?_ ?_ | refine leS_cons rfl ?_ ?_ | (show PLe _ _ _ _; conv => whnf) | (show SLe _ _ _ _; conv => whnf) | (show PLeL _ _ _ _; conv => whnf) | apply And.intro | rfl | exact Nat.le_refl _ | exact fun _ _ => rfl | exact rowEq0 _ _)
  conv => whnf
  refine ⟨_, fun _ => call_new 1 l, ?_⟩
  conv => whnf
  refine ⟨_, fun _ => call11 ⟨l, 0⟩ (by dsimp only; omega), ?_⟩
  have ha0 := tab_ok ⟨l, 0⟩
  have hat := tab_at ⟨l, 0⟩
  dsimp only at hat
  generalize (tabF ⟨l, 0⟩).2 = D at hat ⊢
  generalize (tabF ⟨l, 0⟩).1 = a at ha0 hat ⊢
  conv => whnf
  refine ⟨_, fun _ => call11 D (by omega), ?_⟩
  have hb0 := tab_ok D
  have hbt := tab_at D
  generalize (tabF D).2 = D2 at hbt ⊢
  generalize (tabF D).1 = b at hb0 hbt ⊢
  have ha := check_ok ha0
  have hb := check_ok hb0
  have a3 := ha.l3
  have b3 := hb.l3
  have a4 := tab_rows ha
  have b4 := tab_rows hb
  conv => whnf
  refine ⟨_, fun _ => PureCall.arg_le (call24 0 0 a b (by omega) (by omega) (by omega) a4 (by omega) (by omega) (by omega) b4) rfl (by
    all_goals repeat' (first | exact True.intro | refine leF_cons rfl ?_ ?_ | refine leS_cons rfl ?_ ?_ | (show PLe _ _ _ _; conv => whnf) | (show SLe _ _ _ _; conv => whnf) | (show PLeL _ _ _ _; conv => whnf) | apply And.intro | rfl | exact Nat.le_refl _ | exact fun _ _ => rfl | exact rowEq0 _ _)
    all_goals first | omega | exact (by decide) | skip), ?_⟩
  obtain ⟨j0, hj⟩ := join_ok ha0 hb0 (by omega) (by omega)
  rw [j0]
  generalize (joinF a b).1 = c at hj ⊢
  have hc0 := hj.check
  have hcc := check_ok hc0
  have c1 := hcc.l1
  have c2 := hcc.l2
  have c3 := hcc.l3
  have c4 := tab_rows hcc
  have hz := fun x y => hj.at_ x y
  conv => whnf
  refine ⟨?_, fun h => absurd h Bool.false_ne_true, fun _ => ?_⟩
  · exact g0
  conv => whnf
  refine ⟨?_, ?_⟩
  · exact g0
  refine LSem.loop (n := 99) mix (α := Nat) (fun i => i ≤ 2)
    (fun i => [(2, .int .u8 inflow), (8, .pt 128 0 0), (9, .pt 144 0 0), (10, .pt 160 0 0), (47, .os 752), (48, .int .i64 2), (49, .int .i64 i)])
    (fun i => [(128, .box (eT0 a)), (144, .box (eT0 b)), (160, .box (eT0 c)), (752, .row 0 3 1 2 (fl eInt [level, 90 + level.tmod 60]))]) (fun i => 2 - i) 0 ?_ ?_ ?_
  · exact Nat.zero_le _
  · refine ⟨rfl, rfl, ?_, ?_⟩
    all_goals repeat' (first | exact True.intro | refine leF_cons rfl ?_ ?_ | refine leS_cons rfl ?_ ?_ | (show PLe _ _ _ _; conv => whnf) | (show SLe _ _ _ _; conv => whnf) | (show PLeL _ _ _ _; conv => whnf) | apply And.intro | rfl | exact Nat.le_refl _ | exact fun _ _ => rfl | exact rowEq0 _ _)
    all_goals first | exact rowEq2 rfl rfl | skip
  · intro i hi
    have hji : ((i : Int)).toNat = i := by omega
    conv => whnf
    refine ⟨trivial, fun hc2 => ?_, fun hc2 => ?_⟩
    · replace hc2 := of_decide_eq_true hc2
      have hlt : i < 2 := by
        have h : (i : Int) < 2 := hc2
        omega
      have hv : 0 ≤ [level, 90 + level.tmod 60].getD i default ∧ [level, 90 + level.tmod 60].getD i default ≤ 255 := by
        match i, hlt with
        | 0, _ => exact h1
        | 1, _ => show 0 ≤ 90 + level.tmod 60 ∧ 90 + level.tmod 60 ≤ 255; omega
      conv => whnf
      rw [hji]
      generalize [level, 90 + level.tmod 60].getD i default = v at hv ⊢
      refine ⟨?_, ?_⟩
      · exact g0
      refine LSem.loop (n := 99) mix (α := Nat) (fun k => k ≤ 2)
        (fun k => [(2, .int .u8 inflow), (8, .pt 128 0 0), (9, .pt 144 0 0), (10, .pt 160 0 0), (13, .int .i64 v), (47, .os 752), (48, .int .i64 2), (49, .int .i64 i), (58, .os 928), (59, .int .i64 2), (60, .int .i64 k)])
        (fun k => [(128, .box (eT0 a)), (144, .box (eT0 b)), (160, .box (eT0 c)), (752, .row 0 3 1 2 (fl eInt [level, 90 + level.tmod 60])), (928, .row 0 3 1 2 (fl eInt [inflow, inflow.tmod 20]))]) (fun k => 2 - k) 0 ?_ ?_ ?_
      · exact Nat.zero_le _
      · refine ⟨rfl, rfl, ?_, ?_⟩
        all_goals repeat' (first | exact True.intro | refine leF_cons rfl ?_ ?_ | refine leS_cons rfl ?_ ?_ | (show PLe _ _ _ _; conv => whnf) | (show SLe _ _ _ _; conv => whnf) | (show PLeL _ _ _ _; conv => whnf) | apply And.intro | rfl | exact Nat.le_refl _ | exact fun _ _ => rfl | exact rowEq0 _ _)
        all_goals first | exact rowEq2 rfl rfl | skip
      · intro k hk
        have hjk : ((k : Int)).toNat = k := by omega
        conv => whnf
        refine ⟨trivial, fun hc3 => ?_, fun hc3 => ?_⟩
        · replace hc3 := of_decide_eq_true hc3
          have hlt2 : k < 2 := by
            have h : (k : Int) < 2 := hc3
            omega
          have hq : 0 ≤ [inflow, inflow.tmod 20].getD k default ∧ [inflow, inflow.tmod 20].getD k default ≤ 255 := by
            match k, hlt2 with
            | 0, _ => exact h2
            | 1, _ => show 0 ≤ inflow.tmod 20 ∧ inflow.tmod 20 ≤ 255; omega
          conv => whnf
          rw [hjk]
          generalize [inflow, inflow.tmod 20].getD k default = u at hq ⊢
          refine ⟨_, fun _ => call19 0 0 a v u (by omega) (by omega) (by omega) a4, ?_⟩
          rw [rel_ok ha0 hv hq]
          conv => whnf
          refine ⟨_, fun _ => call19 0 0 b v u (by omega) (by omega) (by omega) b4, ?_⟩
          rw [rel_ok hb0 hv hq]
          conv => whnf
          refine ⟨_, fun _ => call19 0 0 c v u (by omega) (by omega) (by omega) c4, ?_⟩
          rw [rel_ok hc0 hv hq, hz v u]
          generalize atF a v u = xa
          generalize atF b v u = xb
          conv => whnf
          refine ⟨?_, fun h => ?_, fun _ => ?_⟩
          · exact g0
          · exfalso
            revert h
            unfold mx
            simp
          conv => whnf
          refine ⟨?_, k + 1, hlt2, ?_, rfl, rfl, ?_, ?_⟩
          · exact g0
          · omega
          all_goals repeat' (first | exact True.intro | refine leF_cons rfl ?_ ?_ | refine leS_cons rfl ?_ ?_ | (show PLe _ _ _ _; conv => whnf) | (show SLe _ _ _ _; conv => whnf) | (show PLeL _ _ _ _; conv => whnf) | apply And.intro | rfl | exact Nat.le_refl _ | exact fun _ _ => rfl | exact rowEq0 _ _)
          all_goals first | omega | skip
        · replace hc3 := of_decide_eq_false hc3
          conv => whnf
          refine ⟨?_, i + 1, hlt, ?_, rfl, rfl, ?_, ?_⟩
          · exact g0
          · omega
          all_goals repeat' (first | exact True.intro | refine leF_cons rfl ?_ ?_ | refine leS_cons rfl ?_ ?_ | (show PLe _ _ _ _; conv => whnf) | (show SLe _ _ _ _; conv => whnf) | (show PLeL _ _ _ _; conv => whnf) | apply And.intro | rfl | exact Nat.le_refl _ | exact fun _ _ => rfl | exact rowEq0 _ _)
          all_goals first | omega | skip
    · replace hc2 := of_decide_eq_false hc2
      conv => whnf
      refine ⟨_, fun _ => PureCall.arg_le (call22 1 0 c (by omega) (by omega) (by omega) c4) rfl (by
        all_goals repeat' (first | exact True.intro | refine leF_cons rfl ?_ ?_ | refine leS_cons rfl ?_ ?_ | (show PLe _ _ _ _; conv => whnf) | (show SLe _ _ _ _; conv => whnf) | (show PLeL _ _ _ _; conv => whnf) | apply And.intro | rfl | exact Nat.le_refl _ | exact fun _ _ => rfl | exact rowEq0 _ _)
        all_goals first | omega | exact (by decide) | skip), ?_⟩
      rw [hc0]
      conv => whnf
      refine ⟨?_, [], ?_⟩
      · exact g0
      conv => whnf
      refine ⟨rfl, ?_, trivial, trivial⟩
      all_goals repeat' (first | exact True.intro | refine leF_cons rfl ?_ ?_ | refine leS_cons rfl ?_ ?_ | (show PLe _ _ _ _; conv => whnf) | (show SLe _ _ _ _; conv => whnf) | (show PLeL _ _ _ _; conv => whnf) | apply And.intro | rfl | exact Nat.le_refl _ | exact fun _ _ => rfl | exact rowEq0 _ _)
end Pv
end Go.Proofs.YtcfcmafmdpbjoaaDoor
/- LAW 24, THE WALKS: the second form: valid tables, releases. -/
set_option linter.unusedSimpArgs false
set_option linter.unusedVariables false
namespace Go.Proofs.YtcfcmafmdpbjoaaDoor
namespace Pv
def c34L1 : C := (.seq (.reg [⟨(some 14), 224, none, .bi false .lss (.t 13) (.t 12)⟩])
  (.seq (.cond (.t 14) .skip (.exit 0))
  (.seq (.block 1 (.seq (.reg [⟨(some 15), 240, none, .mv (.t 13)⟩,
    ⟨(some 5), 80, none, .mv (.t 15)⟩])
  (.seq (.drw [⟨(some 16), 256, none, .mv (.t 0)⟩,
    ⟨(some 17), 272, none, .mv (.t 5)⟩,
    ⟨(some 18), 288, none, .ia 1 (.t 16) (.t 17)⟩,
    ⟨(some 19), 304, none, .ld 1 false (.t 18)⟩,
    ⟨(some 20), 320, none, .mv (.t 1)⟩,
    ⟨(some 21), 336, none, .mv (.t 5)⟩,
    ⟨(some 22), 352, none, .ia 1 (.t 20) (.t 21)⟩,
    ⟨(some 23), 368, none, .ld 1 false (.t 22)⟩,
    ⟨(some 24), 384, none, .bi false .neq (.t 19) (.t 23)⟩]
    [(0, 1, 16), (0, 4, 16), (0, 5, 16), (0, 6, 16), (0, 7, 16), (1, 4, 17), (1, 5, 17), (1, 6, 17), (1, 7, 17), (2, 4, 18), (2, 5, 18), (2, 6, 18), (2, 7, 18), (3, 4, 19), (3, 5, 19), (3, 6, 19), (3, 7, 19), (4, 5, 20)])
  (.cond (.t 24) (.seq (.reg [⟨(some 4), 64, none, .mv (.c (.bool false))⟩])
  .ret) .skip))))
  (.reg [⟨(some 25), 400, none, .bi false .add (.t 13) (.c (.int .i64 1))⟩,
    ⟨(some 13), 208, none, .mv (.t 25)⟩]))))
def c34 : C := (.seq (.reg [⟨(some 4), 64, none, .mv (.c (.bool false))⟩])
  (.seq (.seq (.reg [⟨(some 6), 96, none, .mv (.t 0)⟩,
    ⟨(some 7), 112, none, .len (.t 6)⟩,
    ⟨(some 8), 128, none, .mv (.t 1)⟩,
    ⟨(some 9), 144, none, .len (.t 8)⟩,
    ⟨(some 10), 160, none, .bi false .neq (.t 7) (.t 9)⟩])
  (.cond (.t 10) (.seq (.reg [⟨(some 4), 64, none, .mv (.c (.bool false))⟩])
  .ret) .skip))
  (.seq (.seq (.reg [⟨(some 11), 176, none, .mv (.t 0)⟩,
    ⟨(some 12), 192, none, .len (.t 11)⟩,
    ⟨(some 13), 208, none, .mv (.c (.int .i64 0))⟩])
  (.block 0 (.loop c34L1)))
  (.seq (.reg [⟨(some 4), 64, none, .mv (.c (.bool true))⟩])
  .ret))))
theorem fits34 : fits Tryd.prog false Tryd.f34 2 26 [(4, none)] = some c34.er := by kernel_rfl
def c40 : C := (.seq (.reg [⟨(some 4), 64, none, .mv (.c (.bool false))⟩])
  (.seq (.reg [⟨(some 5), 80, none, .mv (.t 0)⟩,
    ⟨(some 6), 96, none, .bi false .geq (.t 5) (.c (.int .i64 0))⟩,
    ⟨(some 7), 112, none, .mv (.t 6)⟩,
    ⟨(some 8), 128, (some (7, true)), .mv (.t 0)⟩,
    ⟨(some 9), 144, (some (7, true)), .mv (.t 1)⟩,
    ⟨(some 10), 160, (some (7, true)), .bi false .leq (.t 8) (.t 9)⟩,
    ⟨(some 11), 176, none, .pick (.t 7) (.t 10) (.c (.bool false))⟩,
    ⟨(some 4), 64, none, .mv (.t 11)⟩])
  .ret))
theorem fits40 : fits Tryd.prog false Tryd.f40 2 12 [(4, none)] = some c40.er := by kernel_rfl
def c44L1 : C := (.seq (.reg [⟨(some 10), 160, none, .bi false .lss (.t 9) (.t 8)⟩])
  (.seq (.cond (.t 10) .skip (.exit 0))
  (.seq (.block 1 (.seq (.reg [⟨(some 11), 176, none, .mv (.t 9)⟩,
    ⟨(some 12), 192, none, .ia 1 (.t 7) (.t 9)⟩,
    ⟨(some 13), 208, none, .ld 1 false (.t 12)⟩,
    ⟨(some 5), 80, none, .mv (.t 11)⟩,
    ⟨(some 6), 96, none, .mv (.t 13)⟩])
  (.seq (.seq (.reg [⟨(some 14), 224, none, .mv (.t 6)⟩,
    ⟨(some 15), 240, none, .mv (.t 1)⟩,
    ⟨(some 16), 256, none, .call (.c (.fn (.func 40) [] [])) [(.t 14), (.t 15)]⟩,
    ⟨(some 17), 272, none, .un false .not (.t 16)⟩])
  (.cond (.t 17) (.seq (.reg [⟨(some 4), 64, none, .mv (.c (.int .i64 1))⟩])
  .ret) .skip))
  (.seq (.reg [⟨(some 18), 288, none, .mv (.t 5)⟩,
    ⟨(some 19), 304, none, .bi false .gtr (.t 18) (.c (.int .i64 0))⟩,
    ⟨(some 20), 320, none, .mv (.t 19)⟩,
    ⟨(some 21), 336, (some (20, true)), .mv (.t 6)⟩,
    ⟨(some 22), 352, (some (20, true)), .mv (.t 0)⟩,
    ⟨(some 23), 368, (some (20, true)), .mv (.t 5)⟩,
    ⟨(some 24), 384, (some (20, true)), .bi false .sub (.t 23) (.c (.int .i64 1))⟩,
    ⟨(some 25), 400, (some (20, true)), .ia 1 (.t 22) (.t 24)⟩,
    ⟨(some 26), 416, (some (20, true)), .ld 1 false (.t 25)⟩,
    ⟨(some 27), 432, (some (20, true)), .bi false .leq (.t 21) (.t 26)⟩,
    ⟨(some 28), 448, none, .pick (.t 20) (.t 27) (.c (.bool false))⟩])
  (.cond (.t 28) (.seq (.reg [⟨(some 4), 64, none, .mv (.c (.int .i64 4))⟩])
  .ret) .skip)))))
  (.reg [⟨(some 29), 464, none, .bi false .add (.t 9) (.c (.int .i64 1))⟩,
    ⟨(some 9), 144, none, .mv (.t 29)⟩]))))
def c44 : C := (.seq (.reg [⟨(some 4), 64, none, .mv (.c (.int .i64 0))⟩])
  (.seq (.seq (.reg [⟨(some 7), 112, none, .mv (.t 0)⟩,
    ⟨(some 8), 128, none, .len (.t 7)⟩,
    ⟨(some 9), 144, none, .mv (.c (.int .i64 0))⟩])
  (.block 0 (.loop c44L1)))
  (.seq (.reg [⟨(some 4), 64, none, .mv (.c (.int .i64 0))⟩])
  .ret)))
theorem fits44 : fits Tryd.prog false Tryd.f44 2 30 [(4, none)] = some c44.er := by kernel_rfl
def c41L1 : C := (.seq (.reg [⟨(some 11), 176, none, .bi false .lss (.t 10) (.t 9)⟩])
  (.seq (.cond (.t 11) .skip (.exit 0))
  (.seq (.block 1 (.seq (.reg [⟨(some 12), 192, none, .mv (.t 10)⟩,
    ⟨(some 13), 208, none, .ia 1 (.t 8) (.t 10)⟩,
    ⟨(some 14), 224, none, .ld 1 false (.t 13)⟩,
    ⟨(some 6), 96, none, .mv (.t 12)⟩,
    ⟨(some 7), 112, none, .mv (.t 14)⟩])
  (.seq (.reg [⟨(some 15), 240, none, .mv (.t 7)⟩,
    ⟨(some 16), 256, none, .mv (.t 1)⟩,
    ⟨(some 17), 272, none, .bi false .leq (.t 15) (.t 16)⟩])
  (.cond (.t 17) (.reg [⟨(some 18), 288, none, .mv (.t 6)⟩,
    ⟨(some 5), 80, none, .mv (.t 18)⟩]) .skip))))
  (.reg [⟨(some 19), 304, none, .bi false .add (.t 10) (.c (.int .i64 1))⟩,
    ⟨(some 10), 160, none, .mv (.t 19)⟩]))))
def c41 : C := (.seq (.reg [⟨(some 4), 64, none, .mv (.c (.int .i64 0))⟩])
  (.seq (.reg [⟨(some 5), 80, none, .mv (.c (.int .i64 0))⟩])
  (.seq (.seq (.reg [⟨(some 8), 128, none, .mv (.t 0)⟩,
    ⟨(some 9), 144, none, .len (.t 8)⟩,
    ⟨(some 10), 160, none, .mv (.c (.int .i64 0))⟩])
  (.block 0 (.loop c41L1)))
  (.seq (.reg [⟨(some 20), 320, none, .mv (.t 5)⟩,
    ⟨(some 4), 64, none, .mv (.t 20)⟩])
  .ret))))
theorem fits41 : fits Tryd.prog false Tryd.f41 2 21 [(4, none)] = some c41.er := by kernel_rfl
set_option maxRecDepth 100000 in
set_option maxHeartbeats 4000000 in
theorem call34 (τ τ' : Nat) (l m : List Int) (hl : l.length ≤ 4611686018427387904) : PureCall Tryd.prog 34 [.sl τ 1 l.length (fl eInt l), .sl τ' 1 m.length (fl eInt m)] [] ⟨.bool (l == m), [], []⟩ := by
  refine pure_call mix Tryd.func34 fits34 rfl ?_
  conv => whnf
  refine ⟨?_, fun hc => ?_, fun hc => ?_⟩
  · exact g0
  · simp only [bp] at hc
    rw [beq_false_of (l := l) (m := m) (fun e => by rw [e] at hc; omega)]
    conv => whnf
    refine ⟨?_, [], ?_⟩
    · exact g0
    conv => whnf
    refine ⟨rfl, ?_, trivial, trivial⟩
    all_goals repeat' (first | exact True.intro | refine leF_cons rfl ?_ ?_ | refine leS_cons rfl ?_ ?_ | (show PLe _ _ _ _; conv => whnf) | (show SLe _ _ _ _; conv => whnf) | (show PLeL _ _ _ _; conv => whnf) | apply And.intro | rfl | exact Nat.le_refl _ | exact fun _ _ => rfl | exact rowEq0 _ _)
  simp only [bp] at hc
  have hlm : l.length = m.length := by omega
  conv => whnf
  refine ⟨trivial, ?_⟩
  refine LSem.loop (n := 26) mix (α := Nat) (fun i => i ≤ l.length ∧ ∀ j, j < i → l.getD j default = m.getD j default)
    (fun i => [(0, .sl τ 1 l.length (fl eInt l)), (1, .sl τ' 1 m.length (fl eInt m)), (12, .int .i64 l.length), (13, .int .i64 i)])
    (fun i => []) (fun i => l.length - i) 0 ?_ ?_ ?_
  · exact ⟨Nat.zero_le _, fun j hj => by omega⟩
  · refine ⟨rfl, rfl, ?_, ?_⟩
    all_goals repeat' (first | exact True.intro | refine leF_cons rfl ?_ ?_ | refine leS_cons rfl ?_ ?_ | (show PLe _ _ _ _; conv => whnf) | (show SLe _ _ _ _; conv => whnf) | (show PLeL _ _ _ _; conv => whnf) | apply And.intro | rfl | exact Nat.le_refl _ | exact fun _ _ => rfl | exact rowEq0 _ _)
  · intro i hi
    obtain ⟨hi, hall⟩ := hi
    have hj : ((i : Int)).toNat = i := by omega
    conv => whnf
    refine ⟨trivial, fun hc2 => ?_, fun hc2 => ?_⟩
    · replace hc2 := of_decide_eq_true hc2
      have hlt : i < l.length := by
        have h : (i : Int) < l.length := hc2
        omega
      conv => whnf
      refine ⟨rfl, ?_⟩
      conv => whnf
      refine ⟨?_, fun h1 => ?_, fun h1 => ?_⟩
      · exact g0
      · simp only [bp] at h1
        rw [hj] at h1
        rw [beq_false_of (l := l) (m := m) (fun e => h1 (by rw [e]))]
        conv => whnf
        refine ⟨?_, [], ?_⟩
        · exact g0
        conv => whnf
        refine ⟨rfl, ?_, trivial, trivial⟩
        all_goals repeat' (first | exact True.intro | refine leF_cons rfl ?_ ?_ | refine leS_cons rfl ?_ ?_ | (show PLe _ _ _ _; conv => whnf) | (show SLe _ _ _ _; conv => whnf) | (show PLeL _ _ _ _; conv => whnf) | apply And.intro | rfl | exact Nat.le_refl _ | exact fun _ _ => rfl | exact rowEq0 _ _)
      · simp only [bp] at h1
        rw [hj] at h1
        conv => whnf
        refine ⟨?_, i + 1, ⟨hlt, fun j hj2 => ?_⟩, ?_, rfl, rfl, ?_, ?_⟩
        · exact g0
        · rcases Nat.lt_or_ge j i with h | h
          · exact hall j h
          · rw [show j = i by omega]; exact h1
        · omega
        all_goals repeat' (first | exact True.intro | refine leF_cons rfl ?_ ?_ | refine leS_cons rfl ?_ ?_ | (show PLe _ _ _ _; conv => whnf) | (show SLe _ _ _ _; conv => whnf) | (show PLeL _ _ _ _; conv => whnf) | apply And.intro | rfl | exact Nat.le_refl _ | exact fun _ _ => rfl | exact rowEq0 _ _)
        all_goals first | omega | skip
    · replace hc2 := of_decide_eq_false hc2
      have hk : i = l.length := by
        have h : ¬ (i : Int) < l.length := hc2
        omega
      subst hk
      have he : l = m := getD_ext hlm hall
      rw [show (l == m) = true by rw [he]; exact beq_self_eq_true m]
      conv => whnf
      refine ⟨?_, [], ?_⟩
      · exact g0
      conv => whnf
      refine ⟨rfl, ?_, trivial, trivial⟩
      all_goals repeat' (first | exact True.intro | refine leF_cons rfl ?_ ?_ | refine leS_cons rfl ?_ ?_ | (show PLe _ _ _ _; conv => whnf) | (show SLe _ _ _ _; conv => whnf) | (show PLeL _ _ _ _; conv => whnf) | apply And.intro | rfl | exact Nat.le_refl _ | exact fun _ _ => rfl | exact rowEq0 _ _)
set_option maxRecDepth 100000 in
theorem call40 (x most : Int) : PureCall Tryd.prog 40 [.int .i64 x, .int .i64 most] [] ⟨.bool (decide (0 ≤ x ∧ x ≤ most)), [], []⟩ := by
  refine pure_call mix Tryd.func40 fits40 rfl ?_
  conv => whnf
  refine ⟨?_, [], ?_⟩
  · exact g0
  conv => whnf
  refine ⟨rfl, ?_, trivial, trivial⟩
  all_goals repeat' (first | exact True.intro | refine leF_cons rfl ?_ ?_ | refine leS_cons rfl ?_ ?_ | (show PLe _ _ _ _; conv => whnf) | (show SLe _ _ _ _; conv => whnf) | (show PLeL _ _ _ _; conv => whnf) | apply And.intro | rfl | exact Nat.le_refl _ | exact fun _ _ => rfl | exact rowEq0 _ _)
  by_cases h1 : 0 ≤ x <;> by_cases h2 : x ≤ most <;> simp [h1, h2]
set_option maxRecDepth 100000 in
set_option maxHeartbeats 4000000 in
theorem call44 (τ : Nat) (l : List Int) (most : Int) (hl : l.length ≤ 4611686018427387904) : PureCall Tryd.prog 44 [.sl τ 1 l.length (fl eInt l), .int .i64 most] [] ⟨.int .i64 (scan (riseE l most) 0 l.length), [], []⟩ := by
  refine pure_call mix Tryd.func44 fits44 rfl ?_
  conv => whnf
  refine ⟨trivial, ?_⟩
  refine LSem.loop (n := 30) mix (α := Nat) (fun i => i ≤ l.length ∧ scan (riseE l most) i (l.length - i) = scan (riseE l most) 0 l.length)
    (fun i => [(0, .sl τ 1 l.length (fl eInt l)), (1, .int .i64 most), (7, .sl τ 1 l.length (fl eInt l)), (8, .int .i64 l.length), (9, .int .i64 i)])
    (fun i => []) (fun i => l.length - i) 0 ?_ ?_ ?_
  · exact ⟨Nat.zero_le _, rfl⟩
  · refine ⟨rfl, rfl, ?_, ?_⟩
    all_goals repeat' (first | exact True.intro | refine leF_cons rfl ?_ ?_ | refine leS_cons rfl ?_ ?_ | (show PLe _ _ _ _; conv => whnf) | (show SLe _ _ _ _; conv => whnf) | (show PLeL _ _ _ _; conv => whnf) | apply And.intro | rfl | exact Nat.le_refl _ | exact fun _ _ => rfl | exact rowEq0 _ _)
  · intro i hi
    obtain ⟨hi, hs⟩ := hi
    have hj : ((i : Int)).toNat = i := by omega
    have hj1 : ((i : Int) - 1).toNat = i - 1 := by omega
    conv => whnf
    refine ⟨trivial, fun hc => ?_, fun hc => ?_⟩
    · replace hc := of_decide_eq_true hc
      have hlt : i < l.length := by omega
      conv => whnf
      rw [hj]
      refine ⟨_, fun _ => call40 (l.getD i default) most, ?_⟩
      conv => whnf
      refine ⟨?_, fun h1 => ?_, fun h1 => ?_⟩
      · exact g0
      · have h1' : ¬ (0 ≤ l.getD i default ∧ l.getD i default ≤ most) := fun h => by rw [decide_eq_true h] at h1; cases h1
        have hE : riseE l most i = 1 := by unfold riseE; rw [if_pos (by omega)]
        have hh : scan (riseE l most) 0 l.length = 1 := by rw [← hs, ← hE]; exact scan_hit (show 0 < l.length - i by omega) (by rw [hE]; decide)
        rw [hh]
        conv => whnf
        refine ⟨?_, [], ?_⟩
        · exact g0
        conv => whnf
        refine ⟨rfl, ?_, trivial, trivial⟩
        all_goals repeat' (first | exact True.intro | refine leF_cons rfl ?_ ?_ | refine leS_cons rfl ?_ ?_ | (show PLe _ _ _ _; conv => whnf) | (show SLe _ _ _ _; conv => whnf) | (show PLeL _ _ _ _; conv => whnf) | apply And.intro | rfl | exact Nat.le_refl _ | exact fun _ _ => rfl | exact rowEq0 _ _)
      · have h1' : 0 ≤ l.getD i default ∧ l.getD i default ≤ most := Classical.byContradiction fun h => by rw [decide_eq_false h] at h1; cases h1
        conv => whnf
        refine ⟨?_, fun h2 => ?_, fun h2 => ?_⟩
        · exact g0
        · simp only [bp] at h2
          rw [hj1] at h2
          have hE : riseE l most i = 4 := by unfold riseE; rw [if_neg (by omega), if_pos (by omega)]
          have hh : scan (riseE l most) 0 l.length = 4 := by rw [← hs, ← hE]; exact scan_hit (show 0 < l.length - i by omega) (by rw [hE]; decide)
          rw [hh]
          conv => whnf
          refine ⟨?_, [], ?_⟩
          · exact g0
          conv => whnf
          refine ⟨rfl, ?_, trivial, trivial⟩
          all_goals repeat' (first | exact True.intro | refine leF_cons rfl ?_ ?_ | refine leS_cons rfl ?_ ?_ | (show PLe _ _ _ _; conv => whnf) | (show SLe _ _ _ _; conv => whnf) | (show PLeL _ _ _ _; conv => whnf) | apply And.intro | rfl | exact Nat.le_refl _ | exact fun _ _ => rfl | exact rowEq0 _ _)
        · simp only [bp] at h2
          rw [hj1] at h2
          have hE : riseE l most i = 0 := by unfold riseE; rw [if_neg (by omega), if_neg (by omega)]
          have hh : scan (riseE l most) (i + 1) (l.length - (i + 1)) = scan (riseE l most) 0 l.length := by rw [← hs, scan_step (show 0 < l.length - i by omega) hE]; congr 1
          conv => whnf
          refine ⟨?_, i + 1, ⟨by omega, hh⟩, ?_, rfl, rfl, ?_, ?_⟩
          · exact g0
          · omega
          all_goals repeat' (first | exact True.intro | refine leF_cons rfl ?_ ?_ | refine leS_cons rfl ?_ ?_ | (show PLe _ _ _ _; conv => whnf) | (show SLe _ _ _ _; conv => whnf) | (show PLeL _ _ _ _; conv => whnf) | apply And.intro | rfl | exact Nat.le_refl _ | exact fun _ _ => rfl | exact rowEq0 _ _)
          all_goals omega
    · replace hc := of_decide_eq_false hc
      have : i = l.length := by omega
      subst this
      rw [← hs, Nat.sub_self]
      conv => whnf
      refine ⟨?_, [], ?_⟩
      · exact g0
      conv => whnf
      refine ⟨rfl, ?_, trivial, trivial⟩
      all_goals repeat' (first | exact True.intro | refine leF_cons rfl ?_ ?_ | refine leS_cons rfl ?_ ?_ | (show PLe _ _ _ _; conv => whnf) | (show SLe _ _ _ _; conv => whnf) | (show PLeL _ _ _ _; conv => whnf) | apply And.intro | rfl | exact Nat.le_refl _ | exact fun _ _ => rfl | exact rowEq0 _ _)
def lastN (l : List Int) (x : Int) : Nat → Nat → Nat
  | 0, a => a
  | k + 1, a => if l.getD (l.length - (k + 1)) default ≤ x then lastN l x k (l.length - (k + 1)) else lastN l x k a
def lastF (l : List Int) (x : Int) : Nat := lastN l x l.length 0
theorem lastN_step {l : List Int} {x : Int} {i a : Nat} (h : i < l.length) : lastN l x (l.length - i) a = lastN l x (l.length - (i + 1)) (if l.getD i default ≤ x then i else a) := by
  have e : l.length - i = (l.length - (i + 1)) + 1 := by omega
  rw [e, lastN]
  have e2 : l.length - (l.length - (i + 1) + 1) = i := by omega
  rw [e2]
  split <;> rfl
set_option maxRecDepth 100000 in
set_option maxHeartbeats 4000000 in
theorem call41 (τ : Nat) (l : List Int) (x : Int) (hl : l.length ≤ 4611686018427387904) : PureCall Tryd.prog 41 [.sl τ 1 l.length (fl eInt l), .int .i64 x] [] ⟨.int .i64 (lastF l x : Nat), [], []⟩ := by
  refine pure_call mix Tryd.func41 fits41 rfl ?_
  conv => whnf
  refine ⟨trivial, ?_⟩
  refine LSem.loop (n := 21) mix (α := Nat × Nat) (fun s => s.1 ≤ l.length ∧ lastN l x (l.length - s.1) s.2 = lastF l x)
    (fun s => [(1, .int .i64 x), (5, .int .i64 s.2), (8, .sl τ 1 l.length (fl eInt l)), (9, .int .i64 l.length), (10, .int .i64 s.1)])
    (fun s => []) (fun s => l.length - s.1) (0, 0) ?_ ?_ ?_
  · exact ⟨Nat.zero_le _, rfl⟩
  · refine ⟨rfl, rfl, ?_, ?_⟩
    all_goals repeat' (first | exact True.intro | refine leF_cons rfl ?_ ?_ | refine leS_cons rfl ?_ ?_ | (show PLe _ _ _ _; conv => whnf) | (show SLe _ _ _ _; conv => whnf) | (show PLeL _ _ _ _; conv => whnf) | apply And.intro | rfl | exact Nat.le_refl _ | exact fun _ _ => rfl | exact rowEq0 _ _)
  · intro s hs
    obtain ⟨i, a⟩ := s
    obtain ⟨h1, h2⟩ := hs
    dsimp only at h1 h2
    have hj : ((i : Int)).toNat = i := by omega
    conv => whnf
    refine ⟨trivial, fun hc => ?_, fun hc => ?_⟩
    · replace hc := of_decide_eq_true hc
      have hlt : i < l.length := by
        have h : (i : Int) < l.length := hc
        omega
      have hst := lastN_step (x := x) (a := a) hlt
      conv => whnf
      rw [hj]
      refine ⟨?_, fun h3 => ?_, fun h3 => ?_⟩
      · exact g0
      · have h4 : l.getD i default ≤ x := of_decide_eq_true h3
        rw [if_pos h4] at hst
        conv => whnf
        refine ⟨?_, (i + 1, i), ⟨hlt, by dsimp only; rw [← hst]; exact h2⟩, ?_, rfl, rfl, ?_, ?_⟩
        · exact g0
        · dsimp only; omega
        all_goals repeat' (first | exact True.intro | refine leF_cons rfl ?_ ?_ | refine leS_cons rfl ?_ ?_ | (show PLe _ _ _ _; conv => whnf) | (show SLe _ _ _ _; conv => whnf) | (show PLeL _ _ _ _; conv => whnf) | apply And.intro | rfl | exact Nat.le_refl _ | exact fun _ _ => rfl | exact rowEq0 _ _)
        all_goals first | omega | skip
      · have h4 : ¬ l.getD i default ≤ x := of_decide_eq_false h3
        rw [if_neg h4] at hst
        conv => whnf
        refine ⟨?_, (i + 1, a), ⟨hlt, by dsimp only; rw [← hst]; exact h2⟩, ?_, rfl, rfl, ?_, ?_⟩
        · exact g0
        · dsimp only; omega
        all_goals repeat' (first | exact True.intro | refine leF_cons rfl ?_ ?_ | refine leS_cons rfl ?_ ?_ | (show PLe _ _ _ _; conv => whnf) | (show SLe _ _ _ _; conv => whnf) | (show PLeL _ _ _ _; conv => whnf) | apply And.intro | rfl | exact Nat.le_refl _ | exact fun _ _ => rfl | exact rowEq0 _ _)
        all_goals first | omega | skip
    · replace hc := of_decide_eq_false hc
      have hk : i = l.length := by
        have h : ¬ (i : Int) < l.length := hc
        omega
      subst hk
      rw [Nat.sub_self] at h2
      rw [← h2]
      conv => whnf
      refine ⟨?_, [], ?_⟩
      · exact g0
      conv => whnf
      refine ⟨rfl, ?_, trivial, trivial⟩
      all_goals repeat' (first | exact True.intro | refine leF_cons rfl ?_ ?_ | refine leS_cons rfl ?_ ?_ | (show PLe _ _ _ _; conv => whnf) | (show SLe _ _ _ _; conv => whnf) | (show PLeL _ _ _ _; conv => whnf) | apply And.intro | rfl | exact Nat.le_refl _ | exact fun _ _ => rfl | exact rowEq0 _ _)
end Pv
end Go.Proofs.YtcfcmafmdpbjoaaDoor
/- LAW 24, THE WALKS: the second form: Check, Release. -/
set_option linter.unusedSimpArgs false
set_option linter.unusedVariables false
namespace Go.Proofs.YtcfcmafmdpbjoaaDoor
namespace Pv
def c23L2 : C := (.seq (.reg [⟨(some 67), 1072, none, .bi false .lss (.t 66) (.t 65)⟩])
  (.seq (.cond (.t 67) .skip (.exit 2))
  (.seq (.block 3 (.seq (.reg [⟨(some 68), 1088, none, .mv (.t 66)⟩,
    ⟨(some 69), 1104, none, .ia 1 (.t 64) (.t 66)⟩,
    ⟨(some 70), 1120, none, .ld 1 false (.t 69)⟩,
    ⟨(some 7), 112, none, .mv (.t 68)⟩,
    ⟨(some 8), 128, none, .mv (.t 70)⟩])
  (.seq (.seq (.reg [⟨(some 71), 1136, none, .mv (.t 8)⟩,
    ⟨(some 72), 1152, none, .call (.c (.fn (.func 40) [] [])) [(.t 71), (.c (.int .i64 1073741824))]⟩,
    ⟨(some 73), 1168, none, .un false .not (.t 72)⟩])
  (.cond (.t 73) (.seq (.reg [⟨(some 2), 32, none, .mv (.c (.int .i64 1))⟩])
  .ret) .skip))
  (.seq (.reg [⟨(some 74), 1184, none, .mv (.t 7)⟩,
    ⟨(some 75), 1200, none, .bi false .gtr (.t 74) (.c (.int .i64 0))⟩,
    ⟨(some 76), 1216, none, .mv (.t 75)⟩,
    ⟨(some 77), 1232, (some (76, true)), .mv (.t 8)⟩,
    ⟨(some 78), 1248, (some (76, true)), .mv (.t 6)⟩,
    ⟨(some 79), 1264, (some (76, true)), .mv (.t 7)⟩,
    ⟨(some 80), 1280, (some (76, true)), .bi false .sub (.t 79) (.c (.int .i64 1))⟩,
    ⟨(some 81), 1296, (some (76, true)), .ia 1 (.t 78) (.t 80)⟩,
    ⟨(some 82), 1312, (some (76, true)), .ld 1 false (.t 81)⟩,
    ⟨(some 83), 1328, (some (76, true)), .bi false .lss (.t 77) (.t 82)⟩,
    ⟨(some 84), 1344, none, .pick (.t 76) (.t 83) (.c (.bool false))⟩,
    ⟨(some 85), 1360, none, .mv (.t 84)⟩,
    ⟨(some 86), 1376, (some (85, false)), .mv (.t 5)⟩,
    ⟨(some 87), 1392, (some (85, false)), .bi false .gtr (.t 86) (.c (.int .i64 0))⟩,
    ⟨(some 88), 1408, (some (85, false)), .mv (.t 87)⟩,
    ⟨(some 89), 1424, (some (88, true)), .mv (.t 8)⟩,
    ⟨(some 90), 1440, (some (88, true)), .fa 2 (.t 1)⟩,
    ⟨(some 91), 1456, (some (88, true)), .ld 1 false (.t 90)⟩,
    ⟨(some 92), 1472, (some (88, true)), .mv (.t 5)⟩,
    ⟨(some 93), 1488, (some (88, true)), .bi false .sub (.t 92) (.c (.int .i64 1))⟩,
    ⟨(some 94), 1504, (some (88, true)), .ia 1 (.t 91) (.t 93)⟩,
    ⟨(some 95), 1520, (some (88, true)), .ld 1 false (.t 94)⟩,
    ⟨(some 96), 1536, (some (88, true)), .mv (.t 7)⟩,
    ⟨(some 97), 1552, (some (88, true)), .ia 1 (.t 95) (.t 96)⟩,
    ⟨(some 98), 1568, (some (88, true)), .ld 1 false (.t 97)⟩,
    ⟨(some 99), 1584, (some (88, true)), .bi false .lss (.t 89) (.t 98)⟩,
    ⟨(some 100), 1600, (some (85, false)), .pick (.t 88) (.t 99) (.c (.bool false))⟩,
    ⟨(some 101), 1616, none, .pick (.t 85) (.c (.bool true)) (.t 100)⟩])
  (.cond (.t 101) (.seq (.reg [⟨(some 2), 32, none, .mv (.c (.int .i64 4))⟩])
  .ret) .skip)))))
  (.reg [⟨(some 102), 1632, none, .bi false .add (.t 66) (.c (.int .i64 1))⟩,
    ⟨(some 66), 1056, none, .mv (.t 102)⟩]))))
def c23L1 : C := (.seq (.reg [⟨(some 54), 864, none, .bi false .lss (.t 53) (.t 52)⟩])
  (.seq (.cond (.t 54) .skip (.exit 0))
  (.seq (.block 1 (.seq (.reg [⟨(some 55), 880, none, .mv (.t 53)⟩,
    ⟨(some 56), 896, none, .ia 1 (.t 51) (.t 53)⟩,
    ⟨(some 57), 912, none, .ld 1 false (.t 56)⟩,
    ⟨(some 5), 80, none, .mv (.t 55)⟩,
    ⟨(some 6), 96, none, .mv (.t 57)⟩])
  (.seq (.seq (.reg [⟨(some 58), 928, none, .mv (.t 6)⟩,
    ⟨(some 59), 944, none, .len (.t 58)⟩,
    ⟨(some 60), 960, none, .fa 1 (.t 1)⟩,
    ⟨(some 61), 976, none, .ld 1 false (.t 60)⟩,
    ⟨(some 62), 992, none, .len (.t 61)⟩,
    ⟨(some 63), 1008, none, .bi false .neq (.t 59) (.t 62)⟩])
  (.cond (.t 63) (.seq (.reg [⟨(some 2), 32, none, .mv (.c (.int .i64 3))⟩])
  .ret) .skip))
  (.seq (.reg [⟨(some 64), 1024, none, .mv (.t 6)⟩,
    ⟨(some 65), 1040, none, .len (.t 64)⟩,
    ⟨(some 66), 1056, none, .mv (.c (.int .i64 0))⟩])
  (.block 2 (.loop c23L2))))))
  (.reg [⟨(some 103), 1648, none, .bi false .add (.t 53) (.c (.int .i64 1))⟩,
    ⟨(some 53), 848, none, .mv (.t 103)⟩]))))
def c23 : C := (.seq (.reg [⟨(some 1), 16, none, .bx 3 (.t 0)⟩,
    ⟨(some 2), 32, none, .mv (.c (.int .i64 0))⟩])
  (.seq (.seq (.reg [⟨(some 9), 144, none, .fa 0 (.t 1)⟩,
    ⟨(some 10), 160, none, .ld 1 false (.t 9)⟩,
    ⟨(some 11), 176, none, .len (.t 10)⟩,
    ⟨(some 12), 192, none, .bi false .lss (.t 11) (.c (.int .i64 1))⟩,
    ⟨(some 13), 208, none, .mv (.t 12)⟩,
    ⟨(some 14), 224, (some (13, false)), .fa 0 (.t 1)⟩,
    ⟨(some 15), 240, (some (13, false)), .ld 1 false (.t 14)⟩,
    ⟨(some 16), 256, (some (13, false)), .len (.t 15)⟩,
    ⟨(some 17), 272, (some (13, false)), .bi false .gtr (.t 16) (.c (.int .i64 20))⟩,
    ⟨(some 18), 288, none, .pick (.t 13) (.c (.bool true)) (.t 17)⟩,
    ⟨(some 19), 304, none, .mv (.t 18)⟩,
    ⟨(some 20), 320, (some (19, false)), .fa 1 (.t 1)⟩,
    ⟨(some 21), 336, (some (19, false)), .ld 1 false (.t 20)⟩,
    ⟨(some 22), 352, (some (19, false)), .len (.t 21)⟩,
    ⟨(some 23), 368, (some (19, false)), .bi false .lss (.t 22) (.c (.int .i64 1))⟩,
    ⟨(some 24), 384, none, .pick (.t 19) (.c (.bool true)) (.t 23)⟩,
    ⟨(some 25), 400, none, .mv (.t 24)⟩,
    ⟨(some 26), 416, (some (25, false)), .fa 1 (.t 1)⟩,
    ⟨(some 27), 432, (some (25, false)), .ld 1 false (.t 26)⟩,
    ⟨(some 28), 448, (some (25, false)), .len (.t 27)⟩,
    ⟨(some 29), 464, (some (25, false)), .bi false .gtr (.t 28) (.c (.int .i64 20))⟩,
    ⟨(some 30), 480, none, .pick (.t 25) (.c (.bool true)) (.t 29)⟩])
  (.cond (.t 30) (.seq (.reg [⟨(some 2), 32, none, .mv (.c (.int .i64 42))⟩])
  .ret) .skip))
  (.seq (.seq (.reg [⟨(some 31), 496, none, .fa 0 (.t 1)⟩,
    ⟨(some 32), 512, none, .ld 1 false (.t 31)⟩,
    ⟨(some 33), 528, none, .call (.c (.fn (.func 44) [] [])) [(.t 32), (.c (.int .i64 16777216))]⟩,
    ⟨(some 3), 48, none, .mv (.t 33)⟩])
  (.seq (.reg [⟨(some 34), 544, none, .mv (.t 3)⟩,
    ⟨(some 35), 560, none, .bi false .neq (.t 34) (.c (.int .i64 0))⟩])
  (.cond (.t 35) (.seq (.reg [⟨(some 36), 576, none, .mv (.t 3)⟩,
    ⟨(some 2), 32, none, .mv (.t 36)⟩])
  .ret) .skip)))
  (.seq (.seq (.reg [⟨(some 37), 592, none, .fa 1 (.t 1)⟩,
    ⟨(some 38), 608, none, .ld 1 false (.t 37)⟩,
    ⟨(some 39), 624, none, .call (.c (.fn (.func 44) [] [])) [(.t 38), (.c (.int .i64 1073741824))]⟩,
    ⟨(some 4), 64, none, .mv (.t 39)⟩])
  (.seq (.reg [⟨(some 40), 640, none, .mv (.t 4)⟩,
    ⟨(some 41), 656, none, .bi false .neq (.t 40) (.c (.int .i64 0))⟩])
  (.cond (.t 41) (.seq (.reg [⟨(some 42), 672, none, .mv (.t 4)⟩,
    ⟨(some 2), 32, none, .mv (.t 42)⟩])
  .ret) .skip)))
  (.seq (.seq (.reg [⟨(some 43), 688, none, .fa 2 (.t 1)⟩,
    ⟨(some 44), 704, none, .ld 1 false (.t 43)⟩,
    ⟨(some 45), 720, none, .len (.t 44)⟩,
    ⟨(some 46), 736, none, .fa 0 (.t 1)⟩,
    ⟨(some 47), 752, none, .ld 1 false (.t 46)⟩,
    ⟨(some 48), 768, none, .len (.t 47)⟩,
    ⟨(some 49), 784, none, .bi false .neq (.t 45) (.t 48)⟩])
  (.cond (.t 49) (.seq (.reg [⟨(some 2), 32, none, .mv (.c (.int .i64 3))⟩])
  .ret) .skip))
  (.seq (.seq (.reg [⟨(some 50), 800, none, .fa 2 (.t 1)⟩,
    ⟨(some 51), 816, none, .ld 1 false (.t 50)⟩,
    ⟨(some 52), 832, none, .len (.t 51)⟩,
    ⟨(some 53), 848, none, .mv (.c (.int .i64 0))⟩])
  (.block 0 (.loop c23L1)))
  (.seq (.reg [⟨(some 2), 32, none, .mv (.c (.int .i64 0))⟩])
  .ret)))))))
theorem fits23 : fits Tryd.prog false Tryd.f23 1 104 [(2, none)] = some c23.er := by kernel_rfl
def c21 : C := (.seq (.reg [⟨(some 3), 48, none, .bx 3 (.t 0)⟩,
    ⟨(some 6), 96, none, .mv (.c (.int .i64 0))⟩,
    ⟨(some 7), 112, none, .mv (.c (.int .i64 0))⟩])
  (.seq (.seq (.reg [⟨(some 9), 144, none, .ld 3 true (.t 3)⟩,
    ⟨(some 10), 160, none, .call (.c (.fn (.func 23) [] [])) [(.t 9)]⟩,
    ⟨(some 8), 128, none, .mv (.t 10)⟩])
  (.seq (.reg [⟨(some 11), 176, none, .mv (.t 8)⟩,
    ⟨(some 12), 192, none, .bi false .neq (.t 11) (.c (.int .i64 0))⟩])
  (.cond (.t 12) (.seq (.reg [⟨(some 13), 208, none, .mv (.t 8)⟩,
    ⟨(some 6), 96, none, .mv (.c (.int .i64 0))⟩,
    ⟨(some 7), 112, none, .mv (.t 13)⟩])
  .ret) .skip)))
  (.seq (.seq (.reg [⟨(some 14), 224, none, .mv (.t 1)⟩,
    ⟨(some 15), 240, none, .call (.c (.fn (.func 40) [] [])) [(.t 14), (.c (.int .i64 16777216))]⟩,
    ⟨(some 16), 256, none, .un false .not (.t 15)⟩,
    ⟨(some 17), 272, none, .mv (.t 16)⟩,
    ⟨(some 18), 288, (some (17, false)), .mv (.t 2)⟩,
    ⟨(some 19), 304, (some (17, false)), .call (.c (.fn (.func 40) [] [])) [(.t 18), (.c (.int .i64 1073741824))]⟩,
    ⟨(some 20), 320, (some (17, false)), .un false .not (.t 19)⟩,
    ⟨(some 21), 336, none, .pick (.t 17) (.c (.bool true)) (.t 20)⟩])
  (.cond (.t 21) (.seq (.reg [⟨(some 6), 96, none, .mv (.c (.int .i64 0))⟩,
    ⟨(some 7), 112, none, .mv (.c (.int .i64 1))⟩])
  .ret) .skip))
  (.seq (.drw [⟨(some 22), 352, none, .fa 2 (.t 3)⟩,
    ⟨(some 23), 368, none, .ld 1 false (.t 22)⟩,
    ⟨(some 24), 384, none, .fa 0 (.t 3)⟩,
    ⟨(some 25), 400, none, .ld 1 false (.t 24)⟩,
    ⟨(some 26), 416, none, .mv (.t 1)⟩,
    ⟨(some 27), 432, none, .call (.c (.fn (.func 41) [] [])) [(.t 25), (.t 26)]⟩,
    ⟨(some 28), 448, none, .ia 1 (.t 23) (.t 27)⟩,
    ⟨(some 29), 464, none, .ld 1 false (.t 28)⟩,
    ⟨(some 30), 480, none, .fa 1 (.t 3)⟩,
    ⟨(some 31), 496, none, .ld 1 false (.t 30)⟩,
    ⟨(some 32), 512, none, .mv (.t 2)⟩,
    ⟨(some 33), 528, none, .call (.c (.fn (.func 41) [] [])) [(.t 31), (.t 32)]⟩,
    ⟨(some 34), 544, none, .ia 1 (.t 29) (.t 33)⟩,
    ⟨(some 35), 560, none, .ld 1 false (.t 34)⟩,
    ⟨(some 6), 96, none, .mv (.t 35)⟩,
    ⟨(some 7), 112, none, .mv (.c (.int .i64 0))⟩]
    [(0, 2, 22), (0, 3, 22), (0, 4, 22), (0, 5, 22), (0, 8, 22), (0, 9, 22), (0, 10, 22), (0, 11, 22), (1, 2, 23), (1, 3, 23), (1, 4, 23), (1, 5, 23), (1, 8, 23), (1, 9, 23), (1, 10, 23), (1, 11, 23), (2, 4, 24), (2, 8, 24), (2, 9, 24), (2, 10, 24), (3, 4, 25), (3, 8, 25), (3, 9, 25), (3, 10, 25), (4, 8, 26), (4, 9, 26), (4, 10, 26), (5, 8, 27), (5, 9, 27), (5, 10, 27), (6, 8, 28), (6, 9, 28), (6, 10, 28), (6, 11, 28), (7, 8, 29), (7, 9, 29), (7, 10, 29), (7, 11, 29), (8, 10, 30), (9, 10, 31)])
  .ret))))
theorem fits21 : fits Tryd.prog false Tryd.f21 3 36 [(6, none), (7, none)] = some c21.er := by kernel_rfl
theorem under_iff (rel : List (List Int)) (l : List Int) (i k : Nat) : under l (abO rel i) k = true ↔ 0 < i ∧ l.getD k default < (rel.getD (i - 1) default).getD k default := by
  cases i with
  | zero => simp [abO, under]
  | succ i => simp [abO, under, -List.getD_eq_getElem?_getD]
set_option maxRecDepth 100000 in
set_option maxHeartbeats 16000000 in
theorem call23 (σ : Nat) (t : FT) (h1 : t.lv.length ≤ 4611686018427387904) (h2 : t.inf.length ≤ 4611686018427387904) (h3 : t.rel.length ≤ 4611686018427387904) (h4 : ∀ i, i < t.rel.length → (t.rel.getD i default).length ≤ 4611686018427387904) :
    PureCall Tryd.prog 23 [.agg (eFT 2 σ t)] [] ⟨.int .i64 (checkF t), [], []⟩ := by
  refine pure_call mix Tryd.func23 fits23 rfl ?_
  obtain ⟨lv, inf, rel⟩ := t
  dsimp only at h1 h2 h3 h4
  conv => whnf
  refine ⟨?_, fun hc => ?_, fun hc => ?_⟩
  · exact g0
  · simp only [bp] at hc
    rw [show checkF ⟨lv, inf, rel⟩ = 42 by unfold checkF; rw [if_pos (by dsimp only; omega)]]
    conv => whnf
    refine ⟨?_, [], ?_⟩
    · exact g0
    conv => whnf
    refine ⟨rfl, ?_, trivial, trivial⟩
    all_goals repeat' (first | exact True.intro | refine leF_cons rfl ?_ ?_ | refine leS_cons rfl ?_ ?_ | (show PLe _ _ _ _; conv => whnf) | (show SLe _ _ _ _; conv => whnf) | (show PLeL _ _ _ _; conv => whnf) | apply And.intro | rfl | exact Nat.le_refl _ | exact fun _ _ => rfl | exact rowEq0 _ _)
  simp only [bp] at hc
  have hf : checkF ⟨lv, inf, rel⟩ = if scan (riseE lv 16777216) 0 lv.length ≠ 0 then scan (riseE lv 16777216) 0 lv.length
      else if scan (riseE inf 1073741824) 0 inf.length ≠ 0 then scan (riseE inf 1073741824) 0 inf.length
      else if rel.length ≠ lv.length then 3 else scan (relE ⟨lv, inf, rel⟩) 0 rel.length := by
    unfold checkF; rw [if_neg (by dsimp only; omega)]
  rw [hf]
  clear hf
  conv => whnf
  refine ⟨_, fun _ => call44 2 lv 16777216 h1, ?_⟩
  generalize scan (riseE lv 16777216) 0 lv.length = E1
  conv => whnf
  refine ⟨?_, fun hc1 => ?_, fun hc1 => ?_⟩
  · exact g0
  · simp only [bp] at hc1
    rw [if_pos hc1]
    conv => whnf
    refine ⟨?_, [], ?_⟩
    · exact g0
    conv => whnf
    refine ⟨rfl, ?_, trivial, trivial⟩
    all_goals repeat' (first | exact True.intro | refine leF_cons rfl ?_ ?_ | refine leS_cons rfl ?_ ?_ | (show PLe _ _ _ _; conv => whnf) | (show SLe _ _ _ _; conv => whnf) | (show PLeL _ _ _ _; conv => whnf) | apply And.intro | rfl | exact Nat.le_refl _ | exact fun _ _ => rfl | exact rowEq0 _ _)
  simp only [bp] at hc1
  rw [if_neg (by omega)]
  conv => whnf
  refine ⟨_, fun _ => call44 2 inf 1073741824 h2, ?_⟩
  generalize scan (riseE inf 1073741824) 0 inf.length = E2
  conv => whnf
  refine ⟨?_, fun hc2 => ?_, fun hc2 => ?_⟩
  · exact g0
  · simp only [bp] at hc2
    rw [if_pos hc2]
    conv => whnf
    refine ⟨?_, [], ?_⟩
    · exact g0
    conv => whnf
    refine ⟨rfl, ?_, trivial, trivial⟩
    all_goals repeat' (first | exact True.intro | refine leF_cons rfl ?_ ?_ | refine leS_cons rfl ?_ ?_ | (show PLe _ _ _ _; conv => whnf) | (show SLe _ _ _ _; conv => whnf) | (show PLeL _ _ _ _; conv => whnf) | apply And.intro | rfl | exact Nat.le_refl _ | exact fun _ _ => rfl | exact rowEq0 _ _)
  simp only [bp] at hc2
  rw [if_neg (by omega)]
  conv => whnf
  refine ⟨?_, fun hc3 => ?_, fun hc3 => ?_⟩
  · exact g0
  · simp only [bp] at hc3
    rw [if_pos (by omega)]
    conv => whnf
    refine ⟨?_, [], ?_⟩
    · exact g0
    conv => whnf
    refine ⟨rfl, ?_, trivial, trivial⟩
    all_goals repeat' (first | exact True.intro | refine leF_cons rfl ?_ ?_ | refine leS_cons rfl ?_ ?_ | (show PLe _ _ _ _; conv => whnf) | (show SLe _ _ _ _; conv => whnf) | (show PLeL _ _ _ _; conv => whnf) | apply And.intro | rfl | exact Nat.le_refl _ | exact fun _ _ => rfl | exact rowEq0 _ _)
  simp only [bp] at hc3
  rw [if_neg (by omega)]
  conv => whnf
  refine ⟨?_, ?_⟩
  · exact g0
  refine LSem.loop (n := 104) mix (α := Nat) (fun i => i ≤ rel.length ∧ scan (relE ⟨lv, inf, rel⟩) i (rel.length - i) = scan (relE ⟨lv, inf, rel⟩) 0 rel.length ∧ ∀ j, j < i → relE ⟨lv, inf, rel⟩ j = 0)
    (fun i => [(1, .pt 16 0 0), (51, .sl 2 1 rel.length (fl (eIs σ) rel)), (52, .int .i64 rel.length), (53, .int .i64 i)])
    (fun i => [(16, .box [.sl 2 1 lv.length (fl eInt lv), .sl 2 1 inf.length (fl eInt inf), .sl 2 1 rel.length (fl (eIs σ) rel)])]) (fun i => rel.length - i) 0 ?_ ?_ ?_
  · exact ⟨Nat.zero_le _, rfl, fun j hj => by omega⟩
  · refine ⟨rfl, rfl, ?_, ?_⟩
    all_goals repeat' (first | exact True.intro | refine leF_cons rfl ?_ ?_ | refine leS_cons rfl ?_ ?_ | (show PLe _ _ _ _; conv => whnf) | (show SLe _ _ _ _; conv => whnf) | (show PLeL _ _ _ _; conv => whnf) | apply And.intro | rfl | exact Nat.le_refl _ | exact fun _ _ => rfl | exact rowEq0 _ _)
  · intro i hi
    obtain ⟨hi, hs, hall⟩ := hi
    have hj : ((i : Int)).toNat = i := by omega
    have hj1 : ((i : Int) - 1).toNat = i - 1 := by omega
    conv => whnf
    refine ⟨trivial, fun hc4 => ?_, fun hc4 => ?_⟩
    · replace hc4 := of_decide_eq_true hc4
      have hlt : i < rel.length := by
        have h : (i : Int) < rel.length := hc4
        omega
      have hprev : 0 < i → (rel.getD ((i : Int) - 1).toNat default).length = inf.length := fun h0 => by
        have := rowF_len (hall (i - 1) (by omega))
        rw [hj1]
        dsimp only at this
        omega
      have hE : relE ⟨lv, inf, rel⟩ i = if ((rel.getD i default).length : Int) ≠ inf.length then 3 else scan (rowE (rel.getD i default) (abO rel i)) 0 (rel.getD i default).length := rfl
      have hUk := fun k => under_iff rel (rel.getD i default) i k
      have hl0 := h4 i hlt
      conv => whnf
      rw [hj]
      generalize rel.getD i default = L at hE hUk hl0 ⊢
      refine ⟨?_, fun hc5 => ?_, fun hc5 => ?_⟩
      · exact g0
      · simp only [bp] at hc5
        rw [if_pos (by omega)] at hE
        have hh : scan (relE ⟨lv, inf, rel⟩) 0 rel.length = 3 := by rw [← hs, ← hE]; exact scan_hit (show 0 < rel.length - i by omega) (by rw [hE]; decide)
        rw [hh]
        conv => whnf
        refine ⟨?_, [], ?_⟩
        · exact g0
        conv => whnf
        refine ⟨rfl, ?_, trivial, trivial⟩
        all_goals repeat' (first | exact True.intro | refine leF_cons rfl ?_ ?_ | refine leS_cons rfl ?_ ?_ | (show PLe _ _ _ _; conv => whnf) | (show SLe _ _ _ _; conv => whnf) | (show PLeL _ _ _ _; conv => whnf) | apply And.intro | rfl | exact Nat.le_refl _ | exact fun _ _ => rfl | exact rowEq0 _ _)
      · simp only [bp] at hc5
        have hLn : L.length = inf.length := by omega
        rw [if_neg (by omega)] at hE
        generalize abO rel i = U at hE hUk
        conv => whnf
        refine ⟨?_, ?_⟩
        · exact g0
        refine LSem.loop (n := 104) mix (α := Nat) (fun k => k ≤ L.length ∧ scan (rowE L U) k (L.length - k) = scan (rowE L U) 0 L.length)
          (fun k => [(1, .pt 16 0 0), (5, .int .i64 i), (6, .sl 2 1 L.length (fl eInt L)), (51, .sl 2 1 rel.length (fl (eIs σ) rel)), (52, .int .i64 rel.length), (53, .int .i64 i), (64, .sl 2 1 L.length (fl eInt L)), (65, .int .i64 L.length), (66, .int .i64 k)])
          (fun k => [(16, .box [.sl 2 1 lv.length (fl eInt lv), .sl 2 1 inf.length (fl eInt inf), .sl 2 1 rel.length (fl (eIs σ) rel)])]) (fun k => L.length - k) 0 ?_ ?_ ?_
        · exact ⟨Nat.zero_le _, rfl⟩
        · refine ⟨rfl, rfl, ?_, ?_⟩
          all_goals repeat' (first | exact True.intro | refine leF_cons rfl ?_ ?_ | refine leS_cons rfl ?_ ?_ | (show PLe _ _ _ _; conv => whnf) | (show SLe _ _ _ _; conv => whnf) | (show PLeL _ _ _ _; conv => whnf) | apply And.intro | rfl | exact Nat.le_refl _ | exact fun _ _ => rfl | exact rowEq0 _ _)
        · intro k hk
          obtain ⟨hk, hsk⟩ := hk
          have hjk : ((k : Int)).toNat = k := by omega
          have hjk1 : ((k : Int) - 1).toNat = k - 1 := by omega
          have hU := hUk k
          conv => whnf
          refine ⟨trivial, fun hc6 => ?_, fun hc6 => ?_⟩
          · replace hc6 := of_decide_eq_true hc6
            have hlt2 : k < L.length := by
              have h : (k : Int) < L.length := hc6
              omega
            conv => whnf
            rw [hjk]
            refine ⟨_, fun _ => call40 (L.getD k default) 1073741824, ?_⟩
            conv => whnf
            refine ⟨?_, fun hc7 => ?_, fun hc7 => ?_⟩
            · exact g0
            · have h7 : ¬ (0 ≤ L.getD k default ∧ L.getD k default ≤ 1073741824) := fun h => by rw [decide_eq_true h] at hc7; cases hc7
              have hR : rowE L U k = 1 := by unfold rowE; rw [if_pos (by omega)]
              have hh : scan (rowE L U) 0 L.length = 1 := by rw [← hsk, ← hR]; exact scan_hit (show 0 < L.length - k by omega) (by rw [hR]; decide)
              rw [hh] at hE
              have hh2 : scan (relE ⟨lv, inf, rel⟩) 0 rel.length = 1 := by rw [← hs, ← hE]; exact scan_hit (show 0 < rel.length - i by omega) (by rw [hE]; decide)
              rw [hh2]
              conv => whnf
              refine ⟨?_, [], ?_⟩
              · exact g0
              conv => whnf
              refine ⟨rfl, ?_, trivial, trivial⟩
              all_goals repeat' (first | exact True.intro | refine leF_cons rfl ?_ ?_ | refine leS_cons rfl ?_ ?_ | (show PLe _ _ _ _; conv => whnf) | (show SLe _ _ _ _; conv => whnf) | (show PLeL _ _ _ _; conv => whnf) | apply And.intro | rfl | exact Nat.le_refl _ | exact fun _ _ => rfl | exact rowEq0 _ _)
            · have h7 : 0 ≤ L.getD k default ∧ L.getD k default ≤ 1073741824 := Classical.byContradiction fun h => by rw [decide_eq_false h] at hc7; cases hc7
              conv => whnf
              refine ⟨?_, fun hc8 => ?_, fun hc8 => ?_⟩
              · exact g0
              · simp only [bp] at hc8
                rw [hjk1, hj1, hjk] at hc8
                have hR : rowE L U k = 4 := by
                  unfold rowE
                  rw [if_neg (by omega), if_pos]
                  by_cases h0 : 0 < k ∧ L.getD k default < L.getD (k - 1) default
                  · exact .inl h0
                  · exact .inr (hU.2 (by omega))
                have hh : scan (rowE L U) 0 L.length = 4 := by rw [← hsk, ← hR]; exact scan_hit (show 0 < L.length - k by omega) (by rw [hR]; decide)
                rw [hh] at hE
                have hh2 : scan (relE ⟨lv, inf, rel⟩) 0 rel.length = 4 := by rw [← hs, ← hE]; exact scan_hit (show 0 < rel.length - i by omega) (by rw [hE]; decide)
                rw [hh2]
                conv => whnf
                refine ⟨?_, [], ?_⟩
                · exact g0
                conv => whnf
                refine ⟨rfl, ?_, trivial, trivial⟩
                all_goals repeat' (first | exact True.intro | refine leF_cons rfl ?_ ?_ | refine leS_cons rfl ?_ ?_ | (show PLe _ _ _ _; conv => whnf) | (show SLe _ _ _ _; conv => whnf) | (show PLeL _ _ _ _; conv => whnf) | apply And.intro | rfl | exact Nat.le_refl _ | exact fun _ _ => rfl | exact rowEq0 _ _)
              · simp only [bp] at hc8
                rw [hjk1, hj1, hjk] at hc8
                have hR : rowE L U k = 0 := by
                  unfold rowE
                  rw [if_neg (by omega), if_neg]
                  rintro (h0 | h0)
                  · omega
                  · have := hU.1 h0
                    omega
                have hh : scan (rowE L U) (k + 1) (L.length - (k + 1)) = scan (rowE L U) 0 L.length := by rw [← hsk, scan_step (show 0 < L.length - k by omega) hR]; congr 1
                conv => whnf
                refine ⟨?_, k + 1, ⟨hlt2, hh⟩, ?_, rfl, rfl, ?_, ?_⟩
                · exact g0
                · omega
                all_goals repeat' (first | exact True.intro | refine leF_cons rfl ?_ ?_ | refine leS_cons rfl ?_ ?_ | (show PLe _ _ _ _; conv => whnf) | (show SLe _ _ _ _; conv => whnf) | (show PLeL _ _ _ _; conv => whnf) | apply And.intro | rfl | exact Nat.le_refl _ | exact fun _ _ => rfl | exact rowEq0 _ _)
                all_goals first | omega | skip
          · replace hc6 := of_decide_eq_false hc6
            have hk2 : k = L.length := by
              have h : ¬ (k : Int) < L.length := hc6
              omega
            subst hk2
            rw [Nat.sub_self] at hsk
            rw [← hsk] at hE
            have hE0 : relE ⟨lv, inf, rel⟩ i = 0 := hE
            have hh : scan (relE ⟨lv, inf, rel⟩) (i + 1) (rel.length - (i + 1)) = scan (relE ⟨lv, inf, rel⟩) 0 rel.length := by rw [← hs, scan_step (show 0 < rel.length - i by omega) hE0]; congr 1
            conv => whnf
            refine ⟨?_, i + 1, ⟨hlt, hh, fun j hj2 => ?_⟩, ?_, rfl, rfl, ?_, ?_⟩
            · exact g0
            · rcases Nat.lt_or_ge j i with h | h
              · exact hall j h
              · rw [show j = i by omega]; exact hE0
            · omega
            all_goals repeat' (first | exact True.intro | refine leF_cons rfl ?_ ?_ | refine leS_cons rfl ?_ ?_ | (show PLe _ _ _ _; conv => whnf) | (show SLe _ _ _ _; conv => whnf) | (show PLeL _ _ _ _; conv => whnf) | apply And.intro | rfl | exact Nat.le_refl _ | exact fun _ _ => rfl | exact rowEq0 _ _)
            all_goals first | omega | skip
    · replace hc4 := of_decide_eq_false hc4
      have hk : i = rel.length := by
        have h : ¬ (i : Int) < rel.length := hc4
        omega
      subst hk
      rw [← hs, Nat.sub_self]
      conv => whnf
      refine ⟨?_, [], ?_⟩
      · exact g0
      conv => whnf
      refine ⟨rfl, ?_, trivial, trivial⟩
      all_goals repeat' (first | exact True.intro | refine leF_cons rfl ?_ ?_ | refine leS_cons rfl ?_ ?_ | (show PLe _ _ _ _; conv => whnf) | (show SLe _ _ _ _; conv => whnf) | (show PLeL _ _ _ _; conv => whnf) | apply And.intro | rfl | exact Nat.le_refl _ | exact fun _ _ => rfl | exact rowEq0 _ _)
theorem lastN_at {l : List Int} {x : Int} : ∀ (k a : Nat), k ≤ l.length → a < l.length → (a = 0 ∨ l.getD a default ≤ x) → (∀ j, a < j → j < l.length - k → x < l.getD j default) → PlaceAt l x (lastN l x k a)
  | 0, a, _, h1, h2, h3 => ⟨h1, h2, fun j h4 h5 => h3 j h4 (by omega)⟩
  | k + 1, a, hk, h1, h2, h3 => by
    unfold lastN
    split
    · rename_i h
      exact lastN_at k _ (by omega) (by omega) (.inr h) (fun j h4 h5 => by omega)
    · rename_i h
      refine lastN_at k a (by omega) h1 h2 fun j h4 h5 => ?_
      by_cases h6 : j < l.length - (k + 1)
      · exact h3 j h4 h6
      · rw [show j = l.length - (k + 1) by omega]; omega
theorem last_place {l : List Int} (h : Asc l) (h0 : 0 < l.length) (x : Int) : placeF l x = (lastF l x : Nat) := by
  obtain ⟨p, e, hp⟩ := place_at h h0 x
  have h2 : PlaceAt l x (lastF l x) := lastN_at l.length 0 (Nat.le_refl _) h0 (.inl rfl) (fun j h4 h5 => by omega)
  rw [e, place_uniq hp h2]
set_option maxRecDepth 100000 in
set_option maxHeartbeats 4000000 in
theorem call21 (σ : Nat) (t : FT) (level inflow : Int) (h1 : t.lv.length ≤ 4611686018427387904) (h2 : t.inf.length ≤ 4611686018427387904) (h3 : t.rel.length ≤ 4611686018427387904) (h4 : ∀ i, i < t.rel.length → (t.rel.getD i default).length ≤ 4611686018427387904) :
    PureCall Tryd.prog 21 [.agg (eFT 2 σ t), .int .i64 level, .int .i64 inflow] [] ⟨.tup [.int .i64 (relF t level inflow).1, .int .i64 (relF t level inflow).2], [], []⟩ := by
  refine pure_call mix Tryd.func21 fits21 rfl ?_
  conv => whnf
  refine ⟨_, fun _ => call23 σ t h1 h2 h3 h4, ?_⟩
  have hok := check_ok (t := t)
  unfold relF
  generalize checkF t = E at hok ⊢
  conv => whnf
  refine ⟨?_, fun hc => ?_, fun hc => ?_⟩
  · exact g0
  · simp only [bp] at hc
    rw [if_pos hc]
    conv => whnf
    refine ⟨?_, [], ?_⟩
    · exact g0
    conv => whnf
    refine ⟨rfl, ?_, trivial, trivial⟩
    all_goals repeat' (first | exact True.intro | refine leF_cons rfl ?_ ?_ | refine leS_cons rfl ?_ ?_ | (show PLe _ _ _ _; conv => whnf) | (show SLe _ _ _ _; conv => whnf) | (show PLeL _ _ _ _; conv => whnf) | apply And.intro | rfl | exact Nat.le_refl _ | exact fun _ _ => rfl | exact rowEq0 _ _)
  simp only [bp] at hc
  rw [if_neg (by omega)]
  have ht := hok (by omega)
  have l1 := ht.l1
  have l2 := ht.l2
  have l3 := ht.l3
  conv => whnf
  refine ⟨_, fun _ => call40 level 16777216, ?_⟩
  conv => whnf
  refine ⟨_, fun _ => call40 inflow 1073741824, ?_⟩
  conv => whnf
  refine ⟨?_, fun hc2 => ?_, fun hc2 => ?_⟩
  · exact g0
  · simp only [bp] at hc2
    rw [if_pos (by omega)]
    conv => whnf
    refine ⟨?_, [], ?_⟩
    · exact g0
    conv => whnf
    refine ⟨rfl, ?_, trivial, trivial⟩
    all_goals repeat' (first | exact True.intro | refine leF_cons rfl ?_ ?_ | refine leS_cons rfl ?_ ?_ | (show PLe _ _ _ _; conv => whnf) | (show SLe _ _ _ _; conv => whnf) | (show PLeL _ _ _ _; conv => whnf) | apply And.intro | rfl | exact Nat.le_refl _ | exact fun _ _ => rfl | exact rowEq0 _ _)
  simp only [bp] at hc2
  rw [if_neg (by omega)]
  have e1 := last_place (rise_asc ht.r1) (by omega) level
  have e2 := last_place (rise_asc ht.r2) (by omega) inflow
  have p1 := place_rng level (l := t.lv) (by omega)
  have p2 := place_rng inflow (l := t.inf) (by omega)
  rw [e1, Int.toNat_natCast] at p1
  rw [e2, Int.toNat_natCast] at p2
  have hrow := ht.row (i := lastF t.lv level) (by omega)
  have ha : atF t level inflow = (t.rel.getD (lastF t.lv level) default).getD (lastF t.inf inflow) default := by
    unfold atF; rw [e1, e2, Int.toNat_natCast, Int.toNat_natCast]
  rw [ha]
  conv => whnf
  refine ⟨_, fun _ => call41 2 t.lv level h1, ?_⟩
  generalize lastF t.lv level = a at p1 hrow ⊢
  conv => whnf
  rw [Int.toNat_natCast]
  refine ⟨_, fun _ => call41 2 t.inf inflow h2, ?_⟩
  generalize lastF t.inf inflow = b at p2 ⊢
  conv => whnf
  refine ⟨rfl, ?_⟩
  conv => whnf
  refine ⟨?_, [], ?_⟩
  · exact g0
  conv => whnf
  refine ⟨rfl, ?_, trivial, trivial⟩
  all_goals repeat' (first | exact True.intro | refine leF_cons rfl ?_ ?_ | refine leS_cons rfl ?_ ?_ | (show PLe _ _ _ _; conv => whnf) | (show SLe _ _ _ _; conv => whnf) | (show PLeL _ _ _ _; conv => whnf) | apply And.intro | rfl | exact Nat.le_refl _ | exact fun _ _ => rfl | exact rowEq0 _ _)
  all_goals first | (rw [Int.toNat_natCast]; done) | skip
end Pv
end Go.Proofs.YtcfcmafmdpbjoaaDoor
/- LAW 24, THE WALKS: the second form: the numbers of two lists. -/
set_option linter.unusedSimpArgs false
set_option linter.unusedVariables false
namespace Go.Proofs.YtcfcmafmdpbjoaaDoor
namespace Pv
def c46L1 : C := (.seq (.seq (.reg [⟨(some 6), 96, none, .mv (.t 0)⟩,
    ⟨(some 7), 112, none, .len (.t 6)⟩,
    ⟨(some 8), 128, none, .bi false .gtr (.t 7) (.c (.int .i64 0))⟩,
    ⟨(some 9), 144, none, .mv (.t 8)⟩,
    ⟨(some 10), 160, (some (9, false)), .mv (.t 1)⟩,
    ⟨(some 11), 176, (some (9, false)), .len (.t 10)⟩,
    ⟨(some 12), 192, (some (9, false)), .bi false .gtr (.t 11) (.c (.int .i64 0))⟩,
    ⟨(some 13), 208, none, .pick (.t 9) (.c (.bool true)) (.t 12)⟩])
  (.cond (.t 13) .skip (.exit 0)))
  (.block 1 (.block 2 (.seq (.drw [⟨(some 25), 400, none, .mv (.t 1)⟩,
    ⟨(some 26), 416, none, .len (.t 25)⟩,
    ⟨(some 27), 432, none, .bi false .eql (.t 26) (.c (.int .i64 0))⟩,
    ⟨(some 28), 448, none, .mv (.t 27)⟩,
    ⟨(some 29), 464, (some (28, false)), .mv (.t 0)⟩,
    ⟨(some 30), 480, (some (28, false)), .len (.t 29)⟩,
    ⟨(some 31), 496, (some (28, false)), .bi false .gtr (.t 30) (.c (.int .i64 0))⟩,
    ⟨(some 32), 512, (some (28, false)), .mv (.t 31)⟩,
    ⟨(some 33), 528, (some (32, true)), .mv (.t 0)⟩,
    ⟨(some 34), 544, (some (32, true)), .ia 1 (.t 33) (.c (.int .i64 0))⟩,
    ⟨(some 35), 560, (some (32, true)), .ld 1 false (.t 34)⟩,
    ⟨(some 36), 576, (some (32, true)), .mv (.t 1)⟩,
    ⟨(some 37), 592, (some (32, true)), .ia 1 (.t 36) (.c (.int .i64 0))⟩,
    ⟨(some 38), 608, (some (32, true)), .ld 1 false (.t 37)⟩,
    ⟨(some 39), 624, (some (32, true)), .bi false .lss (.t 35) (.t 38)⟩,
    ⟨(some 40), 640, (some (28, false)), .pick (.t 32) (.t 39) (.c (.bool false))⟩,
    ⟨(some 41), 656, none, .pick (.t 28) (.c (.bool true)) (.t 40)⟩,
    ⟨(some 24), 384, none, .mv (.t 41)⟩]
    [(8, 11, 33), (8, 12, 33), (8, 13, 33), (9, 11, 34), (9, 12, 34), (9, 13, 34), (10, 11, 35), (10, 12, 35), (10, 13, 35)])
  (.cond (.t 24) (.drw [⟨(some 42), 672, none, .mv (.t 5)⟩,
    ⟨(some 43), 688, none, .mv (.t 0)⟩,
    ⟨(some 44), 704, none, .ia 1 (.t 43) (.c (.int .i64 0))⟩,
    ⟨(some 45), 720, none, .ld 1 false (.t 44)⟩,
    ⟨(some 46), 736, none, .bs 3 1 [(.t 45)]⟩,
    ⟨(some 47), 752, none, .app 3 1 8 (.t 42) (.t 46)⟩,
    ⟨(some 48), 768, none, .mv (.t 0)⟩,
    ⟨(some 49), 784, none, .slc 1 (.t 48) (some (.c (.int .i64 1))) none⟩,
    ⟨(some 5), 80, none, .mv (.t 47)⟩,
    ⟨(some 0), 0, none, .mv (.t 49)⟩]
    [(0, 1, 42), (0, 2, 42), (0, 3, 42), (0, 4, 42), (0, 6, 42), (0, 7, 42), (1, 6, 43), (1, 7, 43), (2, 6, 44), (2, 7, 44), (3, 6, 45), (3, 7, 45), (4, 6, 46), (4, 7, 46), (5, 6, 47), (5, 7, 47), (6, 8, 48), (7, 8, 49)]) (.seq (.drw [⟨(some 51), 816, none, .mv (.t 0)⟩,
    ⟨(some 52), 832, none, .len (.t 51)⟩,
    ⟨(some 53), 848, none, .bi false .eql (.t 52) (.c (.int .i64 0))⟩,
    ⟨(some 54), 864, none, .mv (.t 53)⟩,
    ⟨(some 55), 880, (some (54, false)), .mv (.t 1)⟩,
    ⟨(some 56), 896, (some (54, false)), .ia 1 (.t 55) (.c (.int .i64 0))⟩,
    ⟨(some 57), 912, (some (54, false)), .ld 1 false (.t 56)⟩,
    ⟨(some 58), 928, (some (54, false)), .mv (.t 0)⟩,
    ⟨(some 59), 944, (some (54, false)), .ia 1 (.t 58) (.c (.int .i64 0))⟩,
    ⟨(some 60), 960, (some (54, false)), .ld 1 false (.t 59)⟩,
    ⟨(some 61), 976, (some (54, false)), .bi false .lss (.t 57) (.t 60)⟩,
    ⟨(some 62), 992, none, .pick (.t 54) (.c (.bool true)) (.t 61)⟩,
    ⟨(some 50), 800, none, .mv (.t 62)⟩]
    [(4, 7, 55), (4, 8, 55), (4, 9, 55), (5, 7, 56), (5, 8, 56), (5, 9, 56), (6, 7, 57), (6, 8, 57), (6, 9, 57)])
  (.cond (.t 50) (.drw [⟨(some 63), 1008, none, .mv (.t 5)⟩,
    ⟨(some 64), 1024, none, .mv (.t 1)⟩,
    ⟨(some 65), 1040, none, .ia 1 (.t 64) (.c (.int .i64 0))⟩,
    ⟨(some 66), 1056, none, .ld 1 false (.t 65)⟩,
    ⟨(some 67), 1072, none, .bs 3 1 [(.t 66)]⟩,
    ⟨(some 68), 1088, none, .app 3 1 8 (.t 63) (.t 67)⟩,
    ⟨(some 69), 1104, none, .mv (.t 1)⟩,
    ⟨(some 70), 1120, none, .slc 1 (.t 69) (some (.c (.int .i64 1))) none⟩,
    ⟨(some 5), 80, none, .mv (.t 68)⟩,
    ⟨(some 1), 16, none, .mv (.t 70)⟩]
    [(0, 1, 63), (0, 2, 63), (0, 3, 63), (0, 4, 63), (0, 6, 63), (0, 7, 63), (1, 6, 64), (1, 7, 64), (2, 6, 65), (2, 7, 65), (3, 6, 66), (3, 7, 66), (4, 6, 67), (4, 7, 67), (5, 6, 68), (5, 7, 68), (6, 8, 69), (7, 8, 70)]) (.drw [⟨(some 14), 224, none, .mv (.t 5)⟩,
    ⟨(some 15), 240, none, .mv (.t 0)⟩,
    ⟨(some 16), 256, none, .ia 1 (.t 15) (.c (.int .i64 0))⟩,
    ⟨(some 17), 272, none, .ld 1 false (.t 16)⟩,
    ⟨(some 18), 288, none, .bs 3 1 [(.t 17)]⟩,
    ⟨(some 19), 304, none, .app 3 1 8 (.t 14) (.t 18)⟩,
    ⟨(some 20), 320, none, .mv (.t 0)⟩,
    ⟨(some 21), 336, none, .slc 1 (.t 20) (some (.c (.int .i64 1))) none⟩,
    ⟨(some 22), 352, none, .mv (.t 1)⟩,
    ⟨(some 23), 368, none, .slc 1 (.t 22) (some (.c (.int .i64 1))) none⟩,
    ⟨(some 5), 80, none, .mv (.t 19)⟩,
    ⟨(some 0), 0, none, .mv (.t 21)⟩,
    ⟨(some 1), 16, none, .mv (.t 23)⟩]
    [(0, 1, 14), (0, 2, 14), (0, 3, 14), (0, 4, 14), (0, 6, 14), (0, 7, 14), (0, 8, 14), (0, 9, 14), (1, 6, 15), (1, 7, 15), (1, 8, 15), (1, 9, 15), (2, 6, 16), (2, 7, 16), (2, 8, 16), (2, 9, 16), (3, 6, 17), (3, 7, 17), (3, 8, 17), (3, 9, 17), (4, 6, 18), (4, 7, 18), (4, 8, 18), (4, 9, 18), (5, 6, 19), (5, 7, 19), (5, 8, 19), (5, 9, 19), (6, 8, 20), (6, 9, 20), (6, 10, 20), (7, 8, 21), (7, 9, 21), (7, 10, 21), (8, 10, 22), (8, 11, 22), (9, 10, 23), (9, 11, 23)]))))))))
def c46 : C := (.seq (.reg [⟨(some 4), 64, none, .mv (.c (.nil 1))⟩])
  (.seq (.reg [⟨(some 5), 80, none, .mv (.c (.nil 1))⟩])
  (.seq (.block 0 (.loop c46L1))
  (.seq (.reg [⟨(some 71), 1136, none, .mv (.t 5)⟩,
    ⟨(some 4), 64, none, .mv (.t 71)⟩])
  .ret))))
theorem fits46 : fits Tryd.prog false Tryd.f46 2 72 [(4, none)] = some c46.er := by kernel_rfl
theorem inc_ext : ∀ (l m : List Int), l.Pairwise (· < ·) → m.Pairwise (· < ·) → (∀ x, x ∈ l ↔ x ∈ m) → l = m
  | [], [], _, _, _ => rfl
  | [], b :: m, _, _, h => by have := (h b).2 (by simp); cases this
  | a :: l, [], _, _, h => by have := (h a).1 (by simp); cases this
  | a :: l, b :: m, hl, hm, h => by
    obtain ⟨hl1, hl2⟩ := List.pairwise_cons.1 hl
    obtain ⟨hm1, hm2⟩ := List.pairwise_cons.1 hm
    have hab : a = b := by
      have h1 : a = b ∨ a ∈ m := by simpa using (h a).1 (by simp)
      have h2 : b = a ∨ b ∈ l := by simpa using (h b).2 (by simp)
      rcases h1 with h1 | h1
      · exact h1
      rcases h2 with h2 | h2
      · exact h2.symm
      have := hm1 a h1
      have := hl1 b h2
      omega
    subst hab
    congr 1
    refine inc_ext l m hl2 hm2 fun x => ?_
    constructor
    · intro hx
      have h1 : x = a ∨ x ∈ m := by simpa using (h x).1 (by simp [hx])
      rcases h1 with h1 | h1
      · have := hl1 x hx; omega
      · exact h1
    · intro hx
      have h1 : x = a ∨ x ∈ l := by simpa using (h x).2 (by simp [hx])
      rcases h1 with h1 | h1
      · have := hm1 x hx; omega
      · exact h1
structure MI (l0 m0 l m acc : List Int) : Prop where
  pl : l.Pairwise (· < ·)
  pm : m.Pairwise (· < ·)
  pa : acc.Pairwise (· < ·)
  al : ∀ x ∈ acc, ∀ y ∈ l, x < y
  am : ∀ x ∈ acc, ∀ y ∈ m, x < y
  mem : ∀ x, (x ∈ acc ∨ x ∈ l ∨ x ∈ m) ↔ (x ∈ l0 ∨ x ∈ m0)
theorem pair_push {acc : List Int} {a : Int} (h : acc.Pairwise (· < ·)) (h2 : ∀ x ∈ acc, x < a) : (acc ++ [a]).Pairwise (· < ·) :=
  List.pairwise_append.2 ⟨h, by simp, fun x hx y hy => by rw [List.mem_singleton] at hy; subst hy; exact h2 x hx⟩
theorem MI.left {l0 m0 l m acc : List Int} {a : Int} (h : MI l0 m0 (a :: l) m acc) (ha : ∀ y ∈ m, a < y) : MI l0 m0 l m (acc ++ [a]) := by
  obtain ⟨p1, p2⟩ := List.pairwise_cons.1 h.pl
  refine ⟨p2, h.pm, pair_push h.pa fun x hx => h.al x hx a (by simp), fun x hx y hy => ?_, fun x hx y hy => ?_, fun x => ?_⟩
  · rcases List.mem_append.1 hx with hx | hx
    · exact h.al x hx y (by simp [hy])
    · rw [List.mem_singleton] at hx; subst hx; exact p1 y hy
  · rcases List.mem_append.1 hx with hx | hx
    · exact h.am x hx y hy
    · rw [List.mem_singleton] at hx; subst hx; exact ha y hy
  · rw [← h.mem x]
    simp only [List.mem_append, List.mem_cons, List.mem_nil_iff, or_false]
    constructor
    · rintro ((h | h) | h | h) <;> simp [h]
    · rintro (h | (h | h) | h) <;> simp [h]
theorem MI.right {l0 m0 l m acc : List Int} {b : Int} (h : MI l0 m0 l (b :: m) acc) (hb : ∀ y ∈ l, b < y) : MI l0 m0 l m (acc ++ [b]) := by
  obtain ⟨p1, p2⟩ := List.pairwise_cons.1 h.pm
  refine ⟨h.pl, p2, pair_push h.pa fun x hx => h.am x hx b (by simp), fun x hx y hy => ?_, fun x hx y hy => ?_, fun x => ?_⟩
  · rcases List.mem_append.1 hx with hx | hx
    · exact h.al x hx y hy
    · rw [List.mem_singleton] at hx; subst hx; exact hb y hy
  · rcases List.mem_append.1 hx with hx | hx
    · exact h.am x hx y (by simp [hy])
    · rw [List.mem_singleton] at hx; subst hx; exact p1 y hy
  · rw [← h.mem x]
    simp only [List.mem_append, List.mem_cons, List.mem_nil_iff, or_false]
    constructor
    · rintro ((h | h) | h | h) <;> simp [h]
    · rintro (h | h | (h | h)) <;> simp [h]
theorem MI.both {l0 m0 l m acc : List Int} {a : Int} (h : MI l0 m0 (a :: l) (a :: m) acc) : MI l0 m0 l m (acc ++ [a]) := by
  obtain ⟨p1, p2⟩ := List.pairwise_cons.1 h.pl
  obtain ⟨q1, q2⟩ := List.pairwise_cons.1 h.pm
  refine ⟨p2, q2, pair_push h.pa fun x hx => h.al x hx a (by simp), fun x hx y hy => ?_, fun x hx y hy => ?_, fun x => ?_⟩
  · rcases List.mem_append.1 hx with hx | hx
    · exact h.al x hx y (by simp [hy])
    · rw [List.mem_singleton] at hx; subst hx; exact p1 y hy
  · rcases List.mem_append.1 hx with hx | hx
    · exact h.am x hx y (by simp [hy])
    · rw [List.mem_singleton] at hx; subst hx; exact q1 y hy
  · rw [← h.mem x]
    simp only [List.mem_append, List.mem_cons, List.mem_nil_iff, or_false]
    constructor
    · rintro ((h | h) | h | h) <;> simp [h]
    · rintro (h | (h | h) | (h | h)) <;> simp [h]
theorem MI.done {l0 m0 acc : List Int} (h : MI l0 m0 [] [] acc) : acc = bothF l0 m0 :=
  inc_ext _ _ h.pa (compact_inc _ (srt_sorted _)) fun x => by
    rw [both_mem, ← h.mem x]
    simp
theorem all_lt {a b : Int} {m : List Int} (h : a < b) (hm : (b :: m).Pairwise (· < ·)) : ∀ y ∈ b :: m, a < y := fun y hy => by
  rcases List.mem_cons.1 hy with rfl | hy
  · exact h
  · have := (List.pairwise_cons.1 hm).1 y hy; omega
theorem all_nil {a : Int} : ∀ y ∈ ([] : List Int), a < y := fun y hy => by cases hy
theorem asc_pw {l : List Int} (h : Asc l) : l.Pairwise (· < ·) := List.pairwise_iff_getElem.2 fun i j hi hj hij => by
  have := h i j hij hj
  rw [List.getD_eq_getElem?_getD, List.getD_eq_getElem?_getD, List.getElem?_eq_getElem hj, List.getElem?_eq_getElem hi] at this
  exact this
set_option maxRecDepth 100000 in
set_option maxHeartbeats 16000000 in
theorem call46 (l0 m0 : List Int) (hl : Asc l0) (hm : Asc m0) (h1 : l0.length ≤ 1000000) (h2 : m0.length ≤ 1000000) : PureCall Tryd.prog 46 [.sl 2 1 l0.length (fl eInt l0), .sl 2 1 m0.length (fl eInt m0)] [] ⟨.sl 0 1 (bothF l0 m0).length (fl eInt (bothF l0 m0)), [], []⟩ := by
  refine pure_call mix Tryd.func46 fits46 rfl ?_
  conv => whnf
  refine ⟨trivial, ?_⟩
  refine LSem.adopt 5 1000000 3 1 1 rfl rfl ?_
  refine LSem.loop (n := 72) mix (α := List Int × List Int × List Int) (fun s => MI l0 m0 s.1 s.2.1 s.2.2 ∧ s.2.2.length + s.1.length + s.2.1.length ≤ 2000000)
    (fun s => [(0, .sl 2 1 s.1.length (fl eInt s.1)), (1, .sl 2 1 s.2.1.length (fl eInt s.2.1)), (5, .os 1000000)])
    (fun s => [(1000000, .row 0 3 1 s.2.2.length (fl eInt s.2.2))]) (fun s => s.1.length + s.2.1.length) (l0, m0, []) ?_ ?_ ?_
  · refine ⟨⟨asc_pw hl, asc_pw hm, List.Pairwise.nil, fun x hx => (by cases hx), fun x hx => (by cases hx), fun x => (by simp)⟩, ?_⟩
    simp only [List.length_nil]; omega
  · refine ⟨rfl, rfl, ?_, ?_⟩
    all_goals repeat' (first | exact True.intro | refine leF_cons rfl ?_ ?_ | refine leS_cons rfl ?_ ?_ | (show PLe _ _ _ _; conv => whnf) | (show SLe _ _ _ _; conv => whnf) | (show PLeL _ _ _ _; conv => whnf) | apply And.intro | rfl | exact Nat.le_refl _ | exact fun _ _ => rfl | exact rowEq0 _ _)
  · intro s hs
    obtain ⟨l, m, acc⟩ := s
    obtain ⟨hI, hN⟩ := hs
    dsimp only at hI hN
    cases l with
    | nil =>
      cases m with
      | nil =>
        have hd := hI.done
        conv => whnf
        refine ⟨?_, fun hc => absurd hc Bool.false_ne_true, fun _ => ?_⟩
        · exact g0
        rw [← hd]
        conv => whnf
        refine ⟨?_, [], ?_⟩
        · exact g0
        conv => whnf
        refine ⟨rfl, ?_, trivial, trivial⟩
        all_goals repeat' (first | exact True.intro | refine leF_cons rfl ?_ ?_ | refine leS_cons rfl ?_ ?_ | (show PLe _ _ _ _; conv => whnf) | (show SLe _ _ _ _; conv => whnf) | (show PLeL _ _ _ _; conv => whnf) | apply And.intro | rfl | exact Nat.le_refl _ | exact fun _ _ => rfl | exact rowEq0 _ _)
      | cons b m =>
        conv => whnf
        refine ⟨?_, fun _ => ?_, fun hc => ?_⟩
        · exact g0
        · conv => whnf
          refine ⟨rfl, ?_⟩
          conv => whnf
          refine ⟨?_, fun hc2 => ?_, fun _ => ?_⟩
          · exact g0
          · exfalso; revert hc2; simp [-List.getD_eq_getElem?_getD]; try omega
          · conv => whnf
            refine ⟨rfl, ?_⟩
            conv => whnf
            refine ⟨?_, fun _ => ?_, fun hc3 => ?_⟩
            · exact g0
            · conv => whnf
              refine ⟨rfl, ?_⟩
              conv => whnf
              have q := fl_push eInt acc b
              refine ⟨?_, ([], m, acc ++ [b]), ⟨hI.right all_nil, ?_⟩, ?_, rfl, rfl, ?_, ?_⟩
              · (try conv => whnf)
                (repeat' (first | exact True.intro | exact fun _ h => h | refine inR64_of ?_ ?_ | apply And.intro | refine maxLen_ge ?_))
                all_goals (try simp only [List.length_cons, List.length_nil, Int.toNat_zero] at *)
                all_goals first | omega | (show _ ≤ _; simp; done) | skip
              · simp only [List.length_append, List.length_cons, List.length_nil] at hN ⊢; omega
              · simp only [List.length_cons, List.length_nil]; omega
              all_goals repeat' (first | exact True.intro | refine leF_cons rfl ?_ ?_ | refine leS_cons rfl ?_ ?_ | (show PLe _ _ _ _; conv => whnf) | (show SLe _ _ _ _; conv => whnf) | (show PLeL _ _ _ _; conv => whnf) | apply And.intro | rfl | exact Nat.le_refl _ | exact fun _ _ => rfl | exact rowEq0 _ _)
              all_goals first | exact q | (intro i hi; show fl eInt (_ :: _) (1 + i) = fl eInt _ i; unfold fl; rw [Nat.add_comm 1 i]; rfl) | (simp only [List.length_append, List.length_cons, List.length_nil]; done) | omega | skip
            · exfalso; revert hc3; simp
        · exfalso; revert hc; simp; try omega
    | cons a l =>
      cases m with
      | nil =>
        conv => whnf
        refine ⟨?_, fun _ => ?_, fun hc => ?_⟩
        · exact g0
        · conv => whnf
          refine ⟨rfl, ?_⟩
          conv => whnf
          refine ⟨?_, fun _ => ?_, fun hc2 => ?_⟩
          · exact g0
          · conv => whnf
            refine ⟨rfl, ?_⟩
            conv => whnf
            have q := fl_push eInt acc a
            refine ⟨?_, (l, [], acc ++ [a]), ⟨hI.left all_nil, ?_⟩, ?_, rfl, rfl, ?_, ?_⟩
            · (try conv => whnf)
              (repeat' (first | exact True.intro | exact fun _ h => h | refine inR64_of ?_ ?_ | apply And.intro | refine maxLen_ge ?_))
              all_goals (try simp only [List.length_cons, List.length_nil, Int.toNat_zero] at *)
              all_goals first | omega | (show _ ≤ _; simp; done) | skip
            · simp only [List.length_append, List.length_cons, List.length_nil] at hN ⊢; omega
            · simp only [List.length_cons, List.length_nil]; omega
            all_goals repeat' (first | exact True.intro | refine leF_cons rfl ?_ ?_ | refine leS_cons rfl ?_ ?_ | (show PLe _ _ _ _; conv => whnf) | (show SLe _ _ _ _; conv => whnf) | (show PLeL _ _ _ _; conv => whnf) | apply And.intro | rfl | exact Nat.le_refl _ | exact fun _ _ => rfl | exact rowEq0 _ _)
            all_goals first | exact q | (intro i hi; show fl eInt (_ :: _) (1 + i) = fl eInt _ i; unfold fl; rw [Nat.add_comm 1 i]; rfl) | (simp only [List.length_append, List.length_cons, List.length_nil]; done) | omega | skip
          · exfalso; revert hc2; simp
        · exfalso; revert hc; simp; try omega
      | cons b m =>
        conv => whnf
        refine ⟨?_, fun _ => ?_, fun hc => ?_⟩
        · exact g0
        · conv => whnf
          refine ⟨rfl, ?_⟩
          conv => whnf
          refine ⟨?_, fun hc2 => ?_, fun hc2 => ?_⟩
          · exact g0
          · have hab : a < b := by
              revert hc2
              show (bif ((((b :: m).length : Nat) : Int) == 0) then true else bif decide ((0 : Int) < (((a :: l).length : Nat) : Int)) then decide (a < b) else false) = true → a < b
              rw [List.length_cons, List.length_cons]
              simp only [bp]
              omega
            conv => whnf
            refine ⟨rfl, ?_⟩
            conv => whnf
            have q := fl_push eInt acc a
            refine ⟨?_, (l, b :: m, acc ++ [a]), ⟨hI.left (all_lt hab hI.pm), ?_⟩, ?_, rfl, rfl, ?_, ?_⟩
            · (try conv => whnf)
              (repeat' (first | exact True.intro | exact fun _ h => h | refine inR64_of ?_ ?_ | apply And.intro | refine maxLen_ge ?_))
              all_goals (try simp only [List.length_cons, List.length_nil, Int.toNat_zero] at *)
              all_goals first | omega | (show _ ≤ _; simp; done) | skip
            · simp only [List.length_append, List.length_cons, List.length_nil] at hN ⊢; omega
            · simp only [List.length_cons, List.length_nil]; omega
            all_goals repeat' (first | exact True.intro | refine leF_cons rfl ?_ ?_ | refine leS_cons rfl ?_ ?_ | (show PLe _ _ _ _; conv => whnf) | (show SLe _ _ _ _; conv => whnf) | (show PLeL _ _ _ _; conv => whnf) | apply And.intro | rfl | exact Nat.le_refl _ | exact fun _ _ => rfl | exact rowEq0 _ _)
            all_goals first | exact q | (intro i hi; show fl eInt (_ :: _) (1 + i) = fl eInt _ i; unfold fl; rw [Nat.add_comm 1 i]; rfl) | (simp only [List.length_append, List.length_cons, List.length_nil]; done) | omega | skip
          · have hab : ¬ a < b := by
              revert hc2
              show (bif ((((b :: m).length : Nat) : Int) == 0) then true else bif decide ((0 : Int) < (((a :: l).length : Nat) : Int)) then decide (a < b) else false) = false → ¬ a < b
              rw [List.length_cons, List.length_cons]
              simp only [bp]
              omega
            conv => whnf
            refine ⟨rfl, ?_⟩
            conv => whnf
            refine ⟨?_, fun hc3 => ?_, fun hc3 => ?_⟩
            · exact g0
            · have hba : b < a := by
                revert hc3
                show (bif ((((a :: l).length : Nat) : Int) == 0) then true else decide (b < a)) = true → b < a
                rw [List.length_cons]
                simp only [bp]
                omega
              conv => whnf
              refine ⟨rfl, ?_⟩
              conv => whnf
              have q := fl_push eInt acc b
              refine ⟨?_, (a :: l, m, acc ++ [b]), ⟨hI.right (all_lt hba hI.pl), ?_⟩, ?_, rfl, rfl, ?_, ?_⟩
              · (try conv => whnf)
                (repeat' (first | exact True.intro | exact fun _ h => h | refine inR64_of ?_ ?_ | apply And.intro | refine maxLen_ge ?_))
                all_goals (try simp only [List.length_cons, List.length_nil, Int.toNat_zero] at *)
                all_goals first | omega | (show _ ≤ _; simp; done) | skip
              · simp only [List.length_append, List.length_cons, List.length_nil] at hN ⊢; omega
              · simp only [List.length_cons, List.length_nil]; omega
              all_goals repeat' (first | exact True.intro | refine leF_cons rfl ?_ ?_ | refine leS_cons rfl ?_ ?_ | (show PLe _ _ _ _; conv => whnf) | (show SLe _ _ _ _; conv => whnf) | (show PLeL _ _ _ _; conv => whnf) | apply And.intro | rfl | exact Nat.le_refl _ | exact fun _ _ => rfl | exact rowEq0 _ _)
              all_goals first | exact q | (intro i hi; show fl eInt (_ :: _) (1 + i) = fl eInt _ i; unfold fl; rw [Nat.add_comm 1 i]; rfl) | (simp only [List.length_append, List.length_cons, List.length_nil]; done) | omega | skip
            · have hba : ¬ b < a := by
                revert hc3
                show (bif ((((a :: l).length : Nat) : Int) == 0) then true else decide (b < a)) = false → ¬ b < a
                rw [List.length_cons]
                simp only [bp]
                omega
              have hab2 : b = a := by omega
              subst hab2
              conv => whnf
              refine ⟨rfl, ?_⟩
              conv => whnf
              have q := fl_push eInt acc b
              refine ⟨?_, (l, m, acc ++ [b]), ⟨hI.both, ?_⟩, ?_, rfl, rfl, ?_, ?_⟩
              · (try conv => whnf)
                (repeat' (first | exact True.intro | exact fun _ h => h | refine inR64_of ?_ ?_ | apply And.intro | refine maxLen_ge ?_))
                all_goals (try simp only [List.length_cons, List.length_nil, Int.toNat_zero] at *)
                all_goals first | omega | (show _ ≤ _; simp; done) | skip
              · simp only [List.length_append, List.length_cons, List.length_nil] at hN ⊢; omega
              · simp only [List.length_cons, List.length_nil]; omega
              all_goals repeat' (first | exact True.intro | refine leF_cons rfl ?_ ?_ | refine leS_cons rfl ?_ ?_ | (show PLe _ _ _ _; conv => whnf) | (show SLe _ _ _ _; conv => whnf) | (show PLeL _ _ _ _; conv => whnf) | apply And.intro | rfl | exact Nat.le_refl _ | exact fun _ _ => rfl | exact rowEq0 _ _)
              all_goals first | exact q | (intro i hi; show fl eInt (_ :: _) (1 + i) = fl eInt _ i; unfold fl; rw [Nat.add_comm 1 i]; rfl) | (simp only [List.length_append, List.length_cons, List.length_nil]; done) | omega | skip
        · exfalso; revert hc; simp; try omega
end Pv
end Go.Proofs.YtcfcmafmdpbjoaaDoor
/- LAW 24, THE WALKS: the second form: the table of two tables; tables that are the same; small tables. -/
set_option linter.unusedSimpArgs false
set_option linter.unusedVariables false
namespace Go.Proofs.YtcfcmafmdpbjoaaDoor
namespace Pv
def c25L2 : C := (.seq (.reg [⟨(some 63), 1008, none, .bi false .lss (.t 62) (.t 61)⟩])
  (.seq (.cond (.t 63) .skip (.exit 2))
  (.seq (.block 3 (.seq (.reg [⟨(some 64), 1024, none, .ia 1 (.t 60) (.t 62)⟩,
    ⟨(some 65), 1040, none, .ld 1 false (.t 64)⟩,
    ⟨(some 13), 208, none, .mv (.t 65)⟩])
  (.seq (.reg [⟨(some 67), 1072, none, .ld 3 true (.t 2)⟩,
    ⟨(some 68), 1088, none, .mv (.t 10)⟩,
    ⟨(some 69), 1104, none, .mv (.t 13)⟩,
    ⟨(some 70), 1120, none, .call (.c (.fn (.func 21) [] [])) [(.t 67), (.t 68), (.t 69)]⟩,
    ⟨(some 66), 1056, none, .mv (.t 70)⟩,
    ⟨(some 71), 1136, none, .ex (.t 66) 0⟩,
    ⟨(some 72), 1152, none, .ex (.t 66) 1⟩,
    ⟨(some 14), 224, none, .mv (.t 71)⟩,
    ⟨(some 15), 240, none, .mv (.t 72)⟩])
  (.seq (.reg [⟨(some 74), 1184, none, .ld 3 true (.t 3)⟩,
    ⟨(some 75), 1200, none, .mv (.t 10)⟩,
    ⟨(some 76), 1216, none, .mv (.t 13)⟩,
    ⟨(some 77), 1232, none, .call (.c (.fn (.func 21) [] [])) [(.t 74), (.t 75), (.t 76)]⟩,
    ⟨(some 73), 1168, none, .mv (.t 77)⟩,
    ⟨(some 78), 1248, none, .ex (.t 73) 0⟩,
    ⟨(some 79), 1264, none, .ex (.t 73) 1⟩,
    ⟨(some 16), 256, none, .mv (.t 78)⟩,
    ⟨(some 17), 272, none, .mv (.t 79)⟩])
  (.reg [⟨(some 80), 1280, none, .mv (.t 11)⟩,
    ⟨(some 81), 1296, none, .mv (.t 14)⟩,
    ⟨(some 82), 1312, none, .mv (.t 16)⟩,
    ⟨(some 83), 1328, none, .mx [(.t 81), (.t 82)]⟩,
    ⟨(some 84), 1344, none, .bs 3 1 [(.t 83)]⟩,
    ⟨(some 85), 1360, none, .app 3 1 8 (.t 80) (.t 84)⟩,
    ⟨(some 11), 176, none, .mv (.t 85)⟩])))))
  (.reg [⟨(some 86), 1376, none, .bi false .add (.t 62) (.c (.int .i64 1))⟩,
    ⟨(some 62), 992, none, .mv (.t 86)⟩]))))
def c25L1 : C := (.seq (.reg [⟨(some 56), 896, none, .bi false .lss (.t 55) (.t 54)⟩])
  (.seq (.cond (.t 56) .skip (.exit 0))
  (.seq (.block 1 (.seq (.reg [⟨(some 57), 912, none, .ia 1 (.t 53) (.t 55)⟩,
    ⟨(some 58), 928, none, .ld 1 false (.t 57)⟩,
    ⟨(some 10), 160, none, .mv (.t 58)⟩])
  (.seq (.reg [⟨(some 11), 176, none, .mv (.c (.nil 1))⟩])
  (.seq (.seq (.reg [⟨(some 59), 944, none, .fa 1 (.t 8)⟩,
    ⟨(some 60), 960, none, .ld 1 false (.t 59)⟩,
    ⟨(some 61), 976, none, .len (.t 60)⟩,
    ⟨(some 62), 992, none, .mv (.c (.int .i64 0))⟩])
  (.block 2 (.loop c25L2)))
  (.reg [⟨(some 87), 1392, none, .fa 2 (.t 8)⟩,
    ⟨(some 88), 1408, none, .ld 1 false (.t 87)⟩,
    ⟨(some 89), 1424, none, .mv (.t 11)⟩,
    ⟨(some 90), 1440, none, .bs 22 1 [(.t 89)]⟩,
    ⟨(some 91), 1456, none, .app 22 1 24 (.t 88) (.t 90)⟩,
    ⟨(some 92), 1472, none, .fa 2 (.t 8)⟩,
    ⟨none, 0, none, .st 1 (.t 92) (.t 91)⟩])))))
  (.reg [⟨(some 93), 1488, none, .bi false .add (.t 55) (.c (.int .i64 1))⟩,
    ⟨(some 55), 880, none, .mv (.t 93)⟩]))))
def c25 : C := (.seq (.reg [⟨(some 2), 32, none, .bx 3 (.t 0)⟩,
    ⟨(some 3), 48, none, .bx 3 (.t 1)⟩,
    ⟨(some 4), 64, none, .al [(.nil 1), (.nil 1), (.nil 1)]⟩,
    ⟨(some 5), 80, none, .mv (.c (.int .i64 0))⟩])
  (.seq (.seq (.reg [⟨(some 18), 288, none, .ld 3 true (.t 2)⟩,
    ⟨(some 19), 304, none, .call (.c (.fn (.func 23) [] [])) [(.t 18)]⟩,
    ⟨(some 6), 96, none, .mv (.t 19)⟩])
  (.seq (.reg [⟨(some 20), 320, none, .mv (.t 6)⟩,
    ⟨(some 21), 336, none, .bi false .neq (.t 20) (.c (.int .i64 0))⟩])
  (.cond (.t 21) (.seq (.reg [⟨(some 22), 352, none, .bd [(.nil 1), (.nil 1), (.nil 1)] []⟩,
    ⟨(some 23), 368, none, .mv (.t 6)⟩,
    ⟨none, 0, none, .st 3 (.t 4) (.t 22)⟩,
    ⟨(some 5), 80, none, .mv (.t 23)⟩])
  .ret) .skip)))
  (.seq (.seq (.reg [⟨(some 24), 384, none, .ld 3 true (.t 3)⟩,
    ⟨(some 25), 400, none, .call (.c (.fn (.func 23) [] [])) [(.t 24)]⟩,
    ⟨(some 7), 112, none, .mv (.t 25)⟩])
  (.seq (.reg [⟨(some 26), 416, none, .mv (.t 7)⟩,
    ⟨(some 27), 432, none, .bi false .neq (.t 26) (.c (.int .i64 0))⟩])
  (.cond (.t 27) (.seq (.reg [⟨(some 28), 448, none, .bd [(.nil 1), (.nil 1), (.nil 1)] []⟩,
    ⟨(some 29), 464, none, .mv (.t 7)⟩,
    ⟨none, 0, none, .st 3 (.t 4) (.t 28)⟩,
    ⟨(some 5), 80, none, .mv (.t 29)⟩])
  .ret) .skip)))
  (.seq (.drw [⟨(some 30), 480, none, .fa 0 (.t 2)⟩,
    ⟨(some 31), 496, none, .ld 1 false (.t 30)⟩,
    ⟨(some 32), 512, none, .fa 0 (.t 3)⟩,
    ⟨(some 33), 528, none, .ld 1 false (.t 32)⟩,
    ⟨(some 34), 544, none, .call (.c (.fn (.func 46) [] [])) [(.t 31), (.t 33)]⟩,
    ⟨(some 35), 560, none, .fa 1 (.t 2)⟩,
    ⟨(some 36), 576, none, .ld 1 false (.t 35)⟩,
    ⟨(some 37), 592, none, .fa 1 (.t 3)⟩,
    ⟨(some 38), 608, none, .ld 1 false (.t 37)⟩,
    ⟨(some 39), 624, none, .call (.c (.fn (.func 46) [] [])) [(.t 36), (.t 38)]⟩,
    ⟨(some 40), 640, none, .bd [(.nil 1), (.nil 1), (.nil 1)] [(0, 1, (.t 34)), (1, 1, (.t 39))]⟩,
    ⟨(some 8), 128, none, .al [(.nil 1), (.nil 1), (.nil 1)]⟩,
    ⟨none, 0, none, .st 3 (.t 8) (.t 40)⟩]
    [(0, 2, 30), (0, 3, 30), (0, 5, 30), (0, 6, 30), (0, 7, 30), (0, 8, 30), (0, 11, 30), (1, 2, 31), (1, 3, 31), (1, 5, 31), (1, 6, 31), (1, 7, 31), (1, 8, 31), (1, 11, 31), (2, 5, 32), (2, 6, 32), (2, 7, 32), (2, 8, 32), (2, 11, 32), (3, 5, 33), (3, 6, 33), (3, 7, 33), (3, 8, 33), (3, 11, 33), (4, 5, 34), (4, 6, 34), (4, 7, 34), (4, 8, 34), (4, 11, 34), (5, 7, 35), (5, 8, 35), (5, 11, 35), (6, 7, 36), (6, 8, 36), (6, 11, 36), (7, 11, 37), (8, 11, 38), (9, 11, 39), (10, 11, 40)])
  (.seq (.seq (.reg [⟨(some 41), 656, none, .fa 0 (.t 8)⟩,
    ⟨(some 42), 672, none, .ld 1 false (.t 41)⟩,
    ⟨(some 43), 688, none, .len (.t 42)⟩,
    ⟨(some 44), 704, none, .bi false .gtr (.t 43) (.c (.int .i64 20))⟩,
    ⟨(some 45), 720, none, .mv (.t 44)⟩,
    ⟨(some 46), 736, (some (45, false)), .fa 1 (.t 8)⟩,
    ⟨(some 47), 752, (some (45, false)), .ld 1 false (.t 46)⟩,
    ⟨(some 48), 768, (some (45, false)), .len (.t 47)⟩,
    ⟨(some 49), 784, (some (45, false)), .bi false .gtr (.t 48) (.c (.int .i64 20))⟩,
    ⟨(some 50), 800, none, .pick (.t 45) (.c (.bool true)) (.t 49)⟩])
  (.cond (.t 50) (.seq (.reg [⟨(some 51), 816, none, .bd [(.nil 1), (.nil 1), (.nil 1)] []⟩,
    ⟨none, 0, none, .st 3 (.t 4) (.t 51)⟩,
    ⟨(some 5), 80, none, .mv (.c (.int .i64 42))⟩])
  .ret) .skip))
  (.seq (.seq (.reg [⟨(some 52), 832, none, .fa 0 (.t 8)⟩,
    ⟨(some 53), 848, none, .ld 1 false (.t 52)⟩,
    ⟨(some 54), 864, none, .len (.t 53)⟩,
    ⟨(some 55), 880, none, .mv (.c (.int .i64 0))⟩])
  (.block 0 (.loop c25L1)))
  (.seq (.reg [⟨(some 94), 1504, none, .ld 3 true (.t 8)⟩,
    ⟨none, 0, none, .st 3 (.t 4) (.t 94)⟩,
    ⟨(some 5), 80, none, .mv (.c (.int .i64 0))⟩])
  .ret)))))))
theorem fits25 : fits Tryd.prog false Tryd.f25 2 95 [(4, some (3, true)), (5, none)] = some c25.er := by kernel_rfl
def c16L1 : C := (.seq (.reg [⟨(some 33), 528, none, .bi false .lss (.t 32) (.t 31)⟩])
  (.seq (.cond (.t 33) .skip (.exit 0))
  (.seq (.block 1 (.seq (.reg [⟨(some 34), 544, none, .mv (.t 32)⟩,
    ⟨(some 5), 80, none, .mv (.t 34)⟩])
  (.seq (.drw [⟨(some 35), 560, none, .fa 2 (.t 2)⟩,
    ⟨(some 36), 576, none, .ld 1 false (.t 35)⟩,
    ⟨(some 37), 592, none, .mv (.t 5)⟩,
    ⟨(some 38), 608, none, .ia 1 (.t 36) (.t 37)⟩,
    ⟨(some 39), 624, none, .ld 1 false (.t 38)⟩,
    ⟨(some 40), 640, none, .fa 2 (.t 3)⟩,
    ⟨(some 41), 656, none, .ld 1 false (.t 40)⟩,
    ⟨(some 42), 672, none, .mv (.t 5)⟩,
    ⟨(some 43), 688, none, .ia 1 (.t 41) (.t 42)⟩,
    ⟨(some 44), 704, none, .ld 1 false (.t 43)⟩,
    ⟨(some 45), 720, none, .call (.c (.fn (.func 34) [] [])) [(.t 39), (.t 44)]⟩,
    ⟨(some 46), 736, none, .un false .not (.t 45)⟩]
    [(0, 2, 35), (0, 5, 35), (0, 6, 35), (0, 7, 35), (0, 8, 35), (0, 9, 35), (1, 2, 36), (1, 5, 36), (1, 6, 36), (1, 7, 36), (1, 8, 36), (1, 9, 36), (2, 5, 37), (2, 6, 37), (2, 7, 37), (2, 8, 37), (2, 9, 37), (3, 5, 38), (3, 6, 38), (3, 7, 38), (3, 8, 38), (3, 9, 38), (4, 5, 39), (4, 6, 39), (4, 7, 39), (4, 8, 39), (4, 9, 39), (5, 7, 40), (6, 7, 41)])
  (.cond (.t 46) (.seq (.reg [⟨(some 4), 64, none, .mv (.c (.bool false))⟩])
  .ret) .skip))))
  (.reg [⟨(some 47), 752, none, .bi false .add (.t 32) (.c (.int .i64 1))⟩,
    ⟨(some 32), 512, none, .mv (.t 47)⟩]))))
def c16 : C := (.seq (.reg [⟨(some 2), 32, none, .bx 3 (.t 0)⟩,
    ⟨(some 3), 48, none, .bx 3 (.t 1)⟩,
    ⟨(some 4), 64, none, .mv (.c (.bool false))⟩])
  (.seq (.seq (.reg [⟨(some 6), 96, none, .fa 0 (.t 2)⟩,
    ⟨(some 7), 112, none, .ld 1 false (.t 6)⟩,
    ⟨(some 8), 128, none, .fa 0 (.t 3)⟩,
    ⟨(some 9), 144, none, .ld 1 false (.t 8)⟩,
    ⟨(some 10), 160, none, .call (.c (.fn (.func 34) [] [])) [(.t 7), (.t 9)]⟩,
    ⟨(some 11), 176, none, .un false .not (.t 10)⟩,
    ⟨(some 12), 192, none, .mv (.t 11)⟩,
    ⟨(some 13), 208, (some (12, false)), .fa 1 (.t 2)⟩,
    ⟨(some 14), 224, (some (12, false)), .ld 1 false (.t 13)⟩,
    ⟨(some 15), 240, (some (12, false)), .fa 1 (.t 3)⟩,
    ⟨(some 16), 256, (some (12, false)), .ld 1 false (.t 15)⟩,
    ⟨(some 17), 272, (some (12, false)), .call (.c (.fn (.func 34) [] [])) [(.t 14), (.t 16)]⟩,
    ⟨(some 18), 288, (some (12, false)), .un false .not (.t 17)⟩,
    ⟨(some 19), 304, none, .pick (.t 12) (.c (.bool true)) (.t 18)⟩,
    ⟨(some 20), 320, none, .mv (.t 19)⟩,
    ⟨(some 21), 336, (some (20, false)), .fa 2 (.t 2)⟩,
    ⟨(some 22), 352, (some (20, false)), .ld 1 false (.t 21)⟩,
    ⟨(some 23), 368, (some (20, false)), .len (.t 22)⟩,
    ⟨(some 24), 384, (some (20, false)), .fa 2 (.t 3)⟩,
    ⟨(some 25), 400, (some (20, false)), .ld 1 false (.t 24)⟩,
    ⟨(some 26), 416, (some (20, false)), .len (.t 25)⟩,
    ⟨(some 27), 432, (some (20, false)), .bi false .neq (.t 23) (.t 26)⟩,
    ⟨(some 28), 448, none, .pick (.t 20) (.c (.bool true)) (.t 27)⟩])
  (.cond (.t 28) (.seq (.reg [⟨(some 4), 64, none, .mv (.c (.bool false))⟩])
  .ret) .skip))
  (.seq (.seq (.reg [⟨(some 29), 464, none, .fa 2 (.t 2)⟩,
    ⟨(some 30), 480, none, .ld 1 false (.t 29)⟩,
    ⟨(some 31), 496, none, .len (.t 30)⟩,
    ⟨(some 32), 512, none, .mv (.c (.int .i64 0))⟩])
  (.block 0 (.loop c16L1)))
  (.seq (.reg [⟨(some 4), 64, none, .mv (.c (.bool true))⟩])
  .ret))))
theorem fits16 : fits Tryd.prog false Tryd.f16 2 48 [(4, none)] = some c16.er := by kernel_rfl
def c10L1 : C := (.seq (.reg [⟨(some 10), 160, none, .bi true .lss (.t 9) (.t 8)⟩])
  (.seq (.cond (.t 10) .skip (.exit 0))
  (.seq (.block 1 (.seq (.reg [⟨(some 11), 176, none, .ia 1 (.t 7) (.t 9)⟩,
    ⟨(some 12), 192, none, .ld 1 false (.t 11)⟩,
    ⟨(some 5), 80, none, .mv (.t 12)⟩])
  (.reg [⟨(some 13), 208, none, .mv (.t 3)⟩,
    ⟨(some 14), 224, none, .mv (.t 5)⟩,
    ⟨(some 15), 240, none, .len (.t 14)⟩,
    ⟨(some 16), 256, none, .bi true .add (.t 13) (.t 15)⟩,
    ⟨(some 3), 48, none, .mv (.t 16)⟩])))
  (.reg [⟨(some 17), 272, none, .bi true .add (.t 9) (.c (.int .i64 1))⟩,
    ⟨(some 9), 144, none, .mv (.t 17)⟩]))))
def c10 : C := (.seq (.reg [⟨(some 1), 16, none, .bx 3 (.t 0)⟩,
    ⟨(some 2), 32, none, .mv (.c (.bool false))⟩])
  (.seq (.reg [⟨(some 3), 48, none, .mv (.c (.int .i64 0))⟩])
  (.seq (.seq (.reg [⟨(some 6), 96, none, .fa 2 (.t 1)⟩,
    ⟨(some 7), 112, none, .ld 1 false (.t 6)⟩,
    ⟨(some 8), 128, none, .len (.t 7)⟩,
    ⟨(some 9), 144, none, .mv (.c (.int .i64 0))⟩])
  (.block 0 (.loop c10L1)))
  (.seq (.reg [⟨(some 18), 288, none, .fa 0 (.t 1)⟩,
    ⟨(some 19), 304, none, .ld 1 false (.t 18)⟩,
    ⟨(some 20), 320, none, .len (.t 19)⟩,
    ⟨(some 21), 336, none, .fa 1 (.t 1)⟩,
    ⟨(some 22), 352, none, .ld 1 false (.t 21)⟩,
    ⟨(some 23), 368, none, .len (.t 22)⟩,
    ⟨(some 24), 384, none, .bi true .add (.t 20) (.t 23)⟩,
    ⟨(some 25), 400, none, .fa 2 (.t 1)⟩,
    ⟨(some 26), 416, none, .ld 1 false (.t 25)⟩,
    ⟨(some 27), 432, none, .len (.t 26)⟩,
    ⟨(some 28), 448, none, .bi true .add (.t 24) (.t 27)⟩,
    ⟨(some 29), 464, none, .mv (.t 3)⟩,
    ⟨(some 30), 480, none, .bi true .add (.t 28) (.t 29)⟩,
    ⟨(some 31), 496, none, .bi true .lss (.t 30) (.c (.int .i64 900))⟩,
    ⟨(some 2), 32, none, .mv (.t 31)⟩])
  .ret))))
theorem fits10 : fits Tryd.prog true Tryd.f10 1 32 [(2, none)] = some c10.er := by kernel_rfl
theorem rel_at2 {t : FT} {x y : Int} (h : checkF t = 0) (h1 : 0 ≤ x ∧ x ≤ 16777216) (h2 : 0 ≤ y ∧ y ≤ 1073741824) : relF t x y = (atF t x y, 0) := by unfold relF; rw [if_neg (by omega), if_neg (by omega)]
set_option maxRecDepth 100000 in
set_option maxHeartbeats 16000000 in
theorem call25 (σ σ' : Nat) (a b : FT) (a1 : a.lv.length ≤ 4611686018427387904) (a2 : a.inf.length ≤ 4611686018427387904) (a3 : a.rel.length ≤ 4611686018427387904) (a4 : ∀ i, i < a.rel.length → (a.rel.getD i default).length ≤ 4611686018427387904)
    (b1 : b.lv.length ≤ 4611686018427387904) (b2 : b.inf.length ≤ 4611686018427387904) (b3 : b.rel.length ≤ 4611686018427387904) (b4 : ∀ i, i < b.rel.length → (b.rel.getD i default).length ≤ 4611686018427387904) :
    PureCall Tryd.prog 25 [.agg (eFT 2 σ a), .agg (eFT 2 σ' b)] [] ⟨.tup [.agg (eFT 0 0 (joinF a b).1), .int .i64 (joinF a b).2], [], []⟩ := by
  refine pure_call mix Tryd.func25 fits25 rfl ?_
  conv => whnf
  refine ⟨_, fun _ => call23 σ a a1 a2 a3 a4, ?_⟩
  have hoka := check_ok (t := a)
  have hokb := check_ok (t := b)
  unfold joinF
  generalize hE1 : checkF a = E1 at hoka ⊢
  conv => whnf
  refine ⟨?_, fun hc => ?_, fun hc => ?_⟩
  · exact g0
  · simp only [bp] at hc
    rw [if_pos hc]
    conv => whnf
    refine ⟨?_, [], ?_⟩
    · exact g0
    conv => whnf
    refine ⟨rfl, ?_, trivial, trivial⟩
    all_goals repeat' (first | exact True.intro | refine leF_cons rfl ?_ ?_ | refine leS_cons rfl ?_ ?_ | (show PLe _ _ _ _; conv => whnf) | (show SLe _ _ _ _; conv => whnf) | (show PLeL _ _ _ _; conv => whnf) | apply And.intro | rfl | exact Nat.le_refl _ | exact fun _ _ => rfl | exact rowEq0 _ _)
  simp only [bp] at hc
  rw [if_neg (by omega)]
  have ha := hoka (by omega)
  have ha0 : checkF a = 0 := by omega
  conv => whnf
  refine ⟨_, fun _ => call23 σ' b b1 b2 b3 b4, ?_⟩
  generalize hE2 : checkF b = E2 at hokb ⊢
  conv => whnf
  refine ⟨?_, fun hc2 => ?_, fun hc2 => ?_⟩
  · exact g0
  · simp only [bp] at hc2
    rw [if_pos hc2]
    conv => whnf
    refine ⟨?_, [], ?_⟩
    · exact g0
    conv => whnf
    refine ⟨rfl, ?_, trivial, trivial⟩
    all_goals repeat' (first | exact True.intro | refine leF_cons rfl ?_ ?_ | refine leS_cons rfl ?_ ?_ | (show PLe _ _ _ _; conv => whnf) | (show SLe _ _ _ _; conv => whnf) | (show PLeL _ _ _ _; conv => whnf) | apply And.intro | rfl | exact Nat.le_refl _ | exact fun _ _ => rfl | exact rowEq0 _ _)
  simp only [bp] at hc2
  rw [if_neg (by omega)]
  have hb := hokb (by omega)
  have hb0 : checkF b = 0 := by omega
  have la1 := ha.l1
  have la2 := ha.l2
  have lb1 := hb.l1
  have lb2 := hb.l2
  conv => whnf
  refine ⟨_, fun _ => call46 a.lv b.lv (rise_asc ha.r1) (rise_asc hb.r1) (by omega) (by omega), ?_⟩
  conv => whnf
  refine ⟨_, fun _ => call46 a.inf b.inf (rise_asc ha.r2) (rise_asc hb.r2) (by omega) (by omega), ?_⟩
  have hLr : ∀ x ∈ bothF a.lv b.lv, 0 ≤ x ∧ x ≤ 16777216 := fun x hx => by
    rcases (both_mem _ _ x).1 hx with h1 | h1
    · exact rng_of (fun i hi => ha.lvr hi) x h1
    · exact rng_of (fun i hi => hb.lvr hi) x h1
  have hIr : ∀ x ∈ bothF a.inf b.inf, 0 ≤ x ∧ x ≤ 1073741824 := fun x hx => by
    rcases (both_mem _ _ x).1 hx with h1 | h1
    · exact rng_of (fun i hi => ha.infr hi) x h1
    · exact rng_of (fun i hi => hb.infr hi) x h1
  generalize bothF a.lv b.lv = L at hLr ⊢
  generalize bothF a.inf b.inf = I at hIr ⊢
  conv => whnf
  refine ⟨rfl, ?_⟩
  conv => whnf
  refine ⟨?_, fun hc3 => ?_, fun hc3 => ?_⟩
  · exact g0
  · simp only [bp] at hc3
    rw [if_pos (by omega)]
    conv => whnf
    refine ⟨?_, [], ?_⟩
    · exact g0
    conv => whnf
    refine ⟨rfl, ?_, trivial, trivial⟩
    all_goals repeat' (first | exact True.intro | refine leF_cons rfl ?_ ?_ | refine leS_cons rfl ?_ ?_ | (show PLe _ _ _ _; conv => whnf) | (show SLe _ _ _ _; conv => whnf) | (show PLeL _ _ _ _; conv => whnf) | apply And.intro | rfl | exact Nat.le_refl _ | exact fun _ _ => rfl | exact rowEq0 _ _)
  simp only [bp] at hc3
  rw [if_neg (by omega)]
  conv => whnf
  refine ⟨?_, ?_⟩
  · exact g0
  refine LSem.adoptF 128 2 1000001 22 1 1 _ rfl rfl rfl ?_
  refine LSem.loop (n := 95) mix (α := Nat) (fun i => i ≤ L.length)
    (fun i => [(2, .pt 32 0 0), (3, .pt 48 0 0), (4, .pt 64 0 0), (8, .pt 128 0 0), (53, .sl 0 1 L.length (fl eInt L)), (54, .int .i64 L.length), (55, .int .i64 i)])
    (fun i => [(32, .box [.sl 2 1 a.lv.length (fl eInt a.lv), .sl 2 1 a.inf.length (fl eInt a.inf), .sl 2 1 a.rel.length (fl (eIs σ) a.rel)]), (48, .box [.sl 2 1 b.lv.length (fl eInt b.lv), .sl 2 1 b.inf.length (fl eInt b.inf), .sl 2 1 b.rel.length (fl (eIs σ') b.rel)]),
      (64, .box [.nil 1, .nil 1, .nil 1]), (128, .box [.sl 0 1 L.length (fl eInt L), .sl 0 1 I.length (fl eInt I), .os 1000001]), (1000001, .row 0 22 1 ((L.take i).map (rowJ a b I)).length (fl (eIs 0) ((L.take i).map (rowJ a b I))))]) (fun i => L.length - i) 0 ?_ ?_ ?_
  · exact Nat.zero_le _
  · refine ⟨rfl, rfl, ?_, ?_⟩
    all_goals repeat' (first | exact True.intro | refine leF_cons rfl ?_ ?_ | refine leS_cons rfl ?_ ?_ | (show PLe _ _ _ _; conv => whnf) | (show SLe _ _ _ _; conv => whnf) | (show PLeL _ _ _ _; conv => whnf) | apply And.intro | rfl | exact Nat.le_refl _ | exact fun _ _ => rfl | exact rowEq0 _ _)
  · intro i hi
    have hj : ((i : Int)).toNat = i := by omega
    have hrl := map_take_len (f := rowJ a b I) hi
    conv => whnf
    refine ⟨trivial, fun hc4 => ?_, fun hc4 => ?_⟩
    · replace hc4 := of_decide_eq_true hc4
      have hlt : i < L.length := by
        have h : (i : Int) < L.length := hc4
        omega
      have hst := map_take (f := rowJ a b I) hlt
      conv => whnf
      rw [hj]
      have hv := hLr _ (getD_mem hlt)
      generalize L.getD i default = lv at hst hv ⊢
      refine ⟨?_, ?_⟩
      · exact g0
      refine LSem.adopt 11 1000000 3 1 1 rfl rfl ?_
      refine LSem.loop (n := 95) mix (α := Nat) (fun k => k ≤ I.length)
        (fun k => [(2, .pt 32 0 0), (3, .pt 48 0 0), (4, .pt 64 0 0), (8, .pt 128 0 0), (10, .int .i64 lv), (11, .os 1000000), (53, .sl 0 1 L.length (fl eInt L)), (54, .int .i64 L.length), (55, .int .i64 i), (60, .sl 0 1 I.length (fl eInt I)), (61, .int .i64 I.length), (62, .int .i64 k)])
        (fun k => [(32, .box [.sl 2 1 a.lv.length (fl eInt a.lv), .sl 2 1 a.inf.length (fl eInt a.inf), .sl 2 1 a.rel.length (fl (eIs σ) a.rel)]), (48, .box [.sl 2 1 b.lv.length (fl eInt b.lv), .sl 2 1 b.inf.length (fl eInt b.inf), .sl 2 1 b.rel.length (fl (eIs σ') b.rel)]),
          (64, .box [.nil 1, .nil 1, .nil 1]), (128, .box [.sl 0 1 L.length (fl eInt L), .sl 0 1 I.length (fl eInt I), .os 1000001]), (1000001, .row 0 22 1 ((L.take i).map (rowJ a b I)).length (fl (eIs 0) ((L.take i).map (rowJ a b I)))),
          (1000000, .row 0 3 1 ((I.take k).map (cellJ a b lv)).length (fl eInt ((I.take k).map (cellJ a b lv))))]) (fun k => I.length - k) 0 ?_ ?_ ?_
      · exact Nat.zero_le _
      · refine ⟨rfl, rfl, ?_, ?_⟩
        all_goals repeat' (first | exact True.intro | refine leF_cons rfl ?_ ?_ | refine leS_cons rfl ?_ ?_ | (show PLe _ _ _ _; conv => whnf) | (show SLe _ _ _ _; conv => whnf) | (show PLeL _ _ _ _; conv => whnf) | apply And.intro | rfl | exact Nat.le_refl _ | exact fun _ _ => rfl | exact rowEq0 _ _)
      · intro k hk
        have hj2 : ((k : Int)).toNat = k := by omega
        have hil := map_take_len (f := cellJ a b lv) hk
        conv => whnf
        refine ⟨trivial, fun hc5 => ?_, fun hc5 => ?_⟩
        · replace hc5 := of_decide_eq_true hc5
          have hlt2 : k < I.length := by
            have h : (k : Int) < I.length := hc5
            omega
          have hst2 := map_take (f := cellJ a b lv) hlt2
          have q := fl_push eInt ((I.take k).map (cellJ a b lv)) (cellJ a b lv (I.getD k default))
          rw [← hst2] at q
          have hil2 := map_take_len (f := cellJ a b lv) (i := k + 1) hlt2
          conv => whnf
          rw [hj2]
          have hq := hIr _ (getD_mem hlt2)
          refine ⟨_, fun _ => call21 σ a lv (I.getD k default) a1 a2 a3 a4, ?_⟩
          rw [rel_at2 ha0 hv hq]
          conv => whnf
          refine ⟨_, fun _ => call21 σ' b lv (I.getD k default) b1 b2 b3 b4, ?_⟩
          rw [rel_at2 hb0 hv hq]
          conv => whnf
          refine ⟨?_, k + 1, hlt2, ?_, rfl, rfl, ?_, ?_⟩
          · (try conv => whnf)
            (repeat' (first | exact True.intro | exact fun _ h => h | refine inR64_of ?_ ?_ | apply And.intro | refine maxLen_ge ?_))
            all_goals (try simp only [hil, List.length_cons, List.length_nil])
            all_goals first | omega | skip
          · omega
          all_goals repeat' (first | exact True.intro | refine leF_cons rfl ?_ ?_ | refine leS_cons rfl ?_ ?_ | (show PLe _ _ _ _; conv => whnf) | (show SLe _ _ _ _; conv => whnf) | (show PLeL _ _ _ _; conv => whnf) | apply And.intro | rfl | exact Nat.le_refl _ | exact fun _ _ => rfl | exact rowEq0 _ _)
          all_goals first | exact q | (rw [hil2, hil]; rfl) | omega | skip
        · replace hc5 := of_decide_eq_false hc5
          have hk2 : k = I.length := by
            have h : ¬ (k : Int) < I.length := hc5
            omega
          subst hk2
          rw [List.take_length]
          have q := fl_push (eIs 0) ((L.take i).map (rowJ a b I)) (rowJ a b I lv)
          rw [← hst] at q
          have hrl2 := map_take_len (f := rowJ a b I) (i := i + 1) hlt
          conv => whnf
          refine ⟨?_, i + 1, hlt, ?_, rfl, rfl, ?_, ?_⟩
          · (try conv => whnf)
            (repeat' (first | exact True.intro | exact fun _ h => h | refine inR64_of ?_ ?_ | apply And.intro | refine maxLen_ge ?_))
            all_goals (try simp only [hrl, List.length_cons, List.length_nil])
            all_goals first | omega | skip
          · omega
          all_goals repeat' (first | exact True.intro | refine leF_cons rfl ?_ ?_ | refine leS_cons rfl ?_ ?_ | (show PLe _ _ _ _; conv => whnf) | (show SLe _ _ _ _; conv => whnf) | (show PLeL _ _ _ _; conv => whnf) | apply And.intro | rfl | exact Nat.le_refl _ | exact fun _ _ => rfl | exact rowEq0 _ _)
          all_goals first | exact q | (rw [hrl2, hrl]; rfl) | omega | skip
    · replace hc4 := of_decide_eq_false hc4
      have hk : i = L.length := by
        have h : ¬ (i : Int) < L.length := hc4
        omega
      subst hk
      rw [List.take_length]
      conv => whnf
      refine ⟨?_, [], ?_⟩
      · exact g0
      conv => whnf
      refine ⟨rfl, ?_, trivial, trivial⟩
      all_goals repeat' (first | exact True.intro | refine leF_cons rfl ?_ ?_ | refine leS_cons rfl ?_ ?_ | (show PLe _ _ _ _; conv => whnf) | (show SLe _ _ _ _; conv => whnf) | (show PLeL _ _ _ _; conv => whnf) | apply And.intro | rfl | exact Nat.le_refl _ | exact fun _ _ => rfl | exact rowEq0 _ _)
set_option maxRecDepth 100000 in
set_option maxHeartbeats 8000000 in
theorem call16 (σ σ' : Nat) (a b : FT) (a1 : a.lv.length ≤ 4611686018427387904) (a2 : a.inf.length ≤ 4611686018427387904) (a3 : a.rel.length ≤ 4611686018427387904) (a4 : ∀ i, i < a.rel.length → (a.rel.getD i default).length ≤ 4611686018427387904) :
    PureCall Tryd.prog 16 [.agg (eFT 2 σ a), .agg (eFT 2 σ' b)] [] ⟨.bool (sameF a b), [], []⟩ := by
  refine pure_call mix Tryd.func16 fits16 rfl ?_
  conv => whnf
  refine ⟨_, fun _ => call34 2 2 a.lv b.lv a1, ?_⟩
  conv => whnf
  refine ⟨_, fun _ => call34 2 2 a.inf b.inf a2, ?_⟩
  unfold sameF
  generalize (a.lv == b.lv) = q1
  generalize (a.inf == b.inf) = q2
  conv => whnf
  refine ⟨?_, fun hc => ?_, fun hc => ?_⟩
  · exact g0
  · have hh : (q1 && (q2 && a.rel == b.rel)) = false := by
      revert hc
      cases q1
      · intro _; rfl
      · cases q2
        · intro _; rfl
        · intro hc
          have h3 : ((a.rel.length : Int) != (b.rel.length : Int)) = true := hc
          have h4 : a.rel.length ≠ b.rel.length := fun e => by rw [e] at h3; simp at h3
          rw [beq_false_of (l := a.rel) (m := b.rel) (fun e => h4 (by rw [e]))]; rfl
    rw [hh]
    conv => whnf
    refine ⟨?_, [], ?_⟩
    · exact g0
    conv => whnf
    refine ⟨rfl, ?_, trivial, trivial⟩
    all_goals repeat' (first | exact True.intro | refine leF_cons rfl ?_ ?_ | refine leS_cons rfl ?_ ?_ | (show PLe _ _ _ _; conv => whnf) | (show SLe _ _ _ _; conv => whnf) | (show PLeL _ _ _ _; conv => whnf) | apply And.intro | rfl | exact Nat.le_refl _ | exact fun _ _ => rfl | exact rowEq0 _ _)
  have hq : q1 = true ∧ q2 = true ∧ a.rel.length = b.rel.length := by
    revert hc
    cases q1
    · intro hc; cases hc
    · cases q2
      · intro hc; cases hc
      · intro hc
        have h3 : ((a.rel.length : Int) != (b.rel.length : Int)) = false := hc
        refine ⟨rfl, rfl, ?_⟩
        have := bne_eq_false_iff_eq.1 h3
        omega
  obtain ⟨rfl, rfl, hlm⟩ := hq
  clear hc
  conv => whnf
  refine ⟨?_, ?_⟩
  · exact g0
  refine LSem.loop (n := 48) mix (α := Nat) (fun i => i ≤ a.rel.length ∧ ∀ j, j < i → a.rel.getD j default = b.rel.getD j default)
    (fun i => [(2, .pt 32 0 0), (3, .pt 48 0 0), (31, .int .i64 a.rel.length), (32, .int .i64 i)])
    (fun i => [(32, .box [.sl 2 1 a.lv.length (fl eInt a.lv), .sl 2 1 a.inf.length (fl eInt a.inf), .sl 2 1 a.rel.length (fl (eIs σ) a.rel)]), (48, .box [.sl 2 1 b.lv.length (fl eInt b.lv), .sl 2 1 b.inf.length (fl eInt b.inf), .sl 2 1 b.rel.length (fl (eIs σ') b.rel)])]) (fun i => a.rel.length - i) 0 ?_ ?_ ?_
  · exact ⟨Nat.zero_le _, fun j hj => by omega⟩
  · refine ⟨rfl, rfl, ?_, ?_⟩
    all_goals repeat' (first | exact True.intro | refine leF_cons rfl ?_ ?_ | refine leS_cons rfl ?_ ?_ | (show PLe _ _ _ _; conv => whnf) | (show SLe _ _ _ _; conv => whnf) | (show PLeL _ _ _ _; conv => whnf) | apply And.intro | rfl | exact Nat.le_refl _ | exact fun _ _ => rfl | exact rowEq0 _ _)
  · intro i hi
    obtain ⟨hi, hall⟩ := hi
    have hj : ((i : Int)).toNat = i := by omega
    conv => whnf
    refine ⟨trivial, fun hc2 => ?_, fun hc2 => ?_⟩
    · replace hc2 := of_decide_eq_true hc2
      have hlt : i < a.rel.length := by
        have h : (i : Int) < a.rel.length := hc2
        omega
      have hli := a4 i hlt
      conv => whnf
      rw [hj]
      refine ⟨_, fun _ => call34 2 2 (a.rel.getD i default) (b.rel.getD i default) hli, ?_⟩
      conv => whnf
      refine ⟨rfl, ?_⟩
      conv => whnf
      refine ⟨?_, fun h1 => ?_, fun h1 => ?_⟩
      · exact g0
      · rw [beq_false_of (l := a.rel) (m := b.rel) (fun e => by rw [e] at h1; exact absurd h1 (by simp))]
        conv => whnf
        refine ⟨?_, [], ?_⟩
        · exact g0
        conv => whnf
        refine ⟨rfl, ?_, trivial, trivial⟩
        all_goals repeat' (first | exact True.intro | refine leF_cons rfl ?_ ?_ | refine leS_cons rfl ?_ ?_ | (show PLe _ _ _ _; conv => whnf) | (show SLe _ _ _ _; conv => whnf) | (show PLeL _ _ _ _; conv => whnf) | apply And.intro | rfl | exact Nat.le_refl _ | exact fun _ _ => rfl | exact rowEq0 _ _)
      · have h2 : a.rel.getD i default = b.rel.getD i default := by
          have h3 : (a.rel.getD i default == b.rel.getD i default) = true := by
            cases h4 : (a.rel.getD i default == b.rel.getD i default) with
            | true => rfl
            | false => rw [h4] at h1; cases h1
          exact eq_of_beq h3
        conv => whnf
        refine ⟨?_, i + 1, ⟨hlt, fun j hj2 => ?_⟩, ?_, rfl, rfl, ?_, ?_⟩
        · exact g0
        · rcases Nat.lt_or_ge j i with h | h
          · exact hall j h
          · rw [show j = i by omega]; exact h2
        · omega
        all_goals repeat' (first | exact True.intro | refine leF_cons rfl ?_ ?_ | refine leS_cons rfl ?_ ?_ | (show PLe _ _ _ _; conv => whnf) | (show SLe _ _ _ _; conv => whnf) | (show PLeL _ _ _ _; conv => whnf) | apply And.intro | rfl | exact Nat.le_refl _ | exact fun _ _ => rfl | exact rowEq0 _ _)
        all_goals first | omega | skip
    · replace hc2 := of_decide_eq_false hc2
      have hk : i = a.rel.length := by
        have h : ¬ (i : Int) < a.rel.length := hc2
        omega
      subst hk
      have he : a.rel = b.rel := getD_ext hlm hall
      rw [show (a.rel == b.rel) = true by rw [he]; exact beq_self_eq_true _]
      conv => whnf
      refine ⟨?_, [], ?_⟩
      · exact g0
      conv => whnf
      refine ⟨rfl, ?_, trivial, trivial⟩
      all_goals repeat' (first | exact True.intro | refine leF_cons rfl ?_ ?_ | refine leS_cons rfl ?_ ?_ | (show PLe _ _ _ _; conv => whnf) | (show SLe _ _ _ _; conv => whnf) | (show PLeL _ _ _ _; conv => whnf) | apply And.intro | rfl | exact Nat.le_refl _ | exact fun _ _ => rfl | exact rowEq0 _ _)
theorem wrap64 (n : Int) : IntKind.wrap .i64 n = (n + 9223372036854775808) % 18446744073709551616 - 9223372036854775808 := by
  simp [IntKind.wrap, IntKind.signed, IntKind.bits]
  omega
def wr (n : Int) : Int := IntKind.wrap .i64 n
theorem wr_in {n : Int} (h1 : -9223372036854775808 ≤ n) (h2 : n ≤ 9223372036854775807) : wr n = n := by unfold wr; rw [wrap64]; omega
def sumW : Int → List (List Int) → Int
  | s, [] => s
  | s, l :: r => sumW (wr (s + l.length)) r
def smallW (t : FT) : Bool := decide (wr (wr (wr ((t.lv.length : Int) + t.inf.length) + t.rel.length) + sumW 0 t.rel) < 900)
theorem sumW_drop {l : List (List Int)} {i : Nat} (s : Int) (h : i < l.length) : sumW s (l.drop i) = sumW (wr (s + (l.getD i default).length)) (l.drop (i + 1)) := by
  rw [List.drop_eq_getElem_cons h]
  have : l.getD i default = l[i] := by simp [List.getD, h]
  rw [this]; rfl
set_option maxRecDepth 100000 in
set_option maxHeartbeats 8000000 in
theorem call10 (σ : Nat) (t : FT) (h3 : t.rel.length ≤ 4611686018427387904) : PureCall Tryd.prog 10 [.agg (eFT 2 σ t)] [] ⟨.bool (smallW t), [], []⟩ := by
  refine pure_call mix Tryd.func10 fits10 rfl ?_
  conv => whnf
  refine ⟨trivial, ?_⟩
  refine LSem.loop (n := 32) mix (α := Nat × Int) (fun x => x.1 ≤ t.rel.length ∧ sumW x.2 (t.rel.drop x.1) = sumW 0 t.rel)
    (fun x => [(1, .pt 16 0 0), (3, .int .i64 x.2), (7, .sl 2 1 t.rel.length (fl (eIs σ) t.rel)), (8, .int .i64 t.rel.length), (9, .int .i64 x.1)])
    (fun x => [(16, .box [.sl 2 1 t.lv.length (fl eInt t.lv), .sl 2 1 t.inf.length (fl eInt t.inf), .sl 2 1 t.rel.length (fl (eIs σ) t.rel)])]) (fun x => t.rel.length - x.1) (0, 0) ?_ ?_ ?_
  · exact ⟨Nat.zero_le _, rfl⟩
  · refine ⟨rfl, rfl, ?_, ?_⟩
    all_goals repeat' (first | exact True.intro | refine leF_cons rfl ?_ ?_ | refine leS_cons rfl ?_ ?_ | (show PLe _ _ _ _; conv => whnf) | (show SLe _ _ _ _; conv => whnf) | (show PLeL _ _ _ _; conv => whnf) | apply And.intro | rfl | exact Nat.le_refl _ | exact fun _ _ => rfl | exact rowEq0 _ _)
  · intro x hx
    obtain ⟨i, s⟩ := x
    obtain ⟨hi, hs⟩ := hx
    dsimp only at hi hs
    have hj : ((i : Int)).toNat = i := by omega
    conv => whnf
    refine ⟨trivial, fun hc2 => ?_, fun hc2 => ?_⟩
    · replace hc2 := of_decide_eq_true hc2
      have hlt : i < t.rel.length := by
        have h : (i : Int) < t.rel.length := hc2
        omega
      have hst := sumW_drop s hlt
      have hwi : wr ((i : Int) + 1) = ((i + 1 : Nat) : Int) := by rw [wr_in (by omega) (by omega)]; omega
      conv => whnf
      rw [hj]
      refine ⟨?_, (i + 1, wr (s + (t.rel.getD i default).length)), ⟨hlt, by dsimp only; rw [← hst]; exact hs⟩, ?_, rfl, rfl, ?_, ?_⟩
      · exact g0
      · dsimp only; omega
      all_goals repeat' (first | exact True.intro | refine leF_cons rfl ?_ ?_ | refine leS_cons rfl ?_ ?_ | (show PLe _ _ _ _; conv => whnf) | (show SLe _ _ _ _; conv => whnf) | (show PLeL _ _ _ _; conv => whnf) | apply And.intro | rfl | exact Nat.le_refl _ | exact fun _ _ => rfl | exact rowEq0 _ _)
      all_goals first | exact hwi | omega | skip
    · replace hc2 := of_decide_eq_false hc2
      have hk : i = t.rel.length := by
        have h : ¬ (i : Int) < t.rel.length := hc2
        omega
      subst hk
      rw [List.drop_length] at hs
      unfold smallW
      rw [← hs]
      conv => whnf
      refine ⟨?_, [], ?_⟩
      · exact g0
      conv => whnf
      refine ⟨rfl, ?_, trivial, trivial⟩
      all_goals repeat' (first | exact True.intro | refine leF_cons rfl ?_ ?_ | refine leS_cons rfl ?_ ?_ | (show PLe _ _ _ _; conv => whnf) | (show SLe _ _ _ _; conv => whnf) | (show PLeL _ _ _ _; conv => whnf) | apply And.intro | rfl | exact Nat.le_refl _ | exact fun _ _ => rfl | exact rowEq0 _ _)
end Pv
end Go.Proofs.YtcfcmafmdpbjoaaDoor
/- LAW 24, THE WALKS: the second form: texts. -/
set_option linter.unusedSimpArgs false
set_option linter.unusedVariables false
namespace Go.Proofs.YtcfcmafmdpbjoaaDoor
namespace Pv
def c51L1 : C := (.seq (.seq (.reg [⟨(some 24), 384, none, .mv (.t 5)⟩,
    ⟨(some 25), 400, none, .mv (.t 0)⟩,
    ⟨(some 26), 416, none, .lens (.t 25)⟩,
    ⟨(some 27), 432, none, .bi false .lss (.t 24) (.t 26)⟩])
  (.cond (.t 27) .skip (.exit 0)))
  (.seq (.block 1 (.seq (.seq (.reg [⟨(some 30), 480, none, .mv (.t 0)⟩,
    ⟨(some 31), 496, none, .mv (.t 5)⟩,
    ⟨(some 32), 512, none, .ixs (.t 30) (.t 31)⟩,
    ⟨(some 33), 528, none, .bi false .lss (.t 32) (.c (.int .u8 48))⟩,
    ⟨(some 34), 544, none, .mv (.t 33)⟩,
    ⟨(some 35), 560, (some (34, false)), .mv (.t 0)⟩,
    ⟨(some 36), 576, (some (34, false)), .mv (.t 5)⟩,
    ⟨(some 37), 592, (some (34, false)), .ixs (.t 35) (.t 36)⟩,
    ⟨(some 38), 608, (some (34, false)), .bi false .gtr (.t 37) (.c (.int .u8 57))⟩,
    ⟨(some 39), 624, none, .pick (.t 34) (.c (.bool true)) (.t 38)⟩])
  (.cond (.t 39) (.seq (.reg [⟨(some 2), 32, none, .mv (.c (.int .i64 0))⟩,
    ⟨(some 3), 48, none, .mv (.c (.bool false))⟩])
  .ret) .skip))
  (.reg [⟨(some 40), 640, none, .mv (.t 4)⟩,
    ⟨(some 41), 656, none, .bi false .mul (.c (.int .i64 10)) (.t 40)⟩,
    ⟨(some 42), 672, none, .mv (.t 0)⟩,
    ⟨(some 43), 688, none, .mv (.t 5)⟩,
    ⟨(some 44), 704, none, .ixs (.t 42) (.t 43)⟩,
    ⟨(some 45), 720, none, .bi false .sub (.t 44) (.c (.int .u8 48))⟩,
    ⟨(some 46), 736, none, .cv false .i64 (.t 45)⟩,
    ⟨(some 47), 752, none, .bi false .add (.t 41) (.t 46)⟩,
    ⟨(some 4), 64, none, .mv (.t 47)⟩])))
  (.reg [⟨(some 28), 448, none, .mv (.t 5)⟩,
    ⟨(some 29), 464, none, .bi false .add (.t 28) (.c (.int .i64 1))⟩,
    ⟨(some 5), 80, none, .mv (.t 29)⟩])))
def c51 : C := (.seq (.reg [⟨(some 2), 32, none, .mv (.c (.int .i64 0))⟩,
    ⟨(some 3), 48, none, .mv (.c (.bool false))⟩])
  (.seq (.seq (.reg [⟨(some 6), 96, none, .mv (.t 0)⟩,
    ⟨(some 7), 112, none, .lens (.t 6)⟩,
    ⟨(some 8), 128, none, .bi false .lss (.t 7) (.c (.int .i64 1))⟩,
    ⟨(some 9), 144, none, .mv (.t 8)⟩,
    ⟨(some 10), 160, (some (9, false)), .mv (.t 0)⟩,
    ⟨(some 11), 176, (some (9, false)), .lens (.t 10)⟩,
    ⟨(some 12), 192, (some (9, false)), .bi false .gtr (.t 11) (.c (.int .i64 13))⟩,
    ⟨(some 13), 208, none, .pick (.t 9) (.c (.bool true)) (.t 12)⟩,
    ⟨(some 14), 224, none, .mv (.t 13)⟩,
    ⟨(some 15), 240, (some (14, false)), .mv (.t 0)⟩,
    ⟨(some 16), 256, (some (14, false)), .lens (.t 15)⟩,
    ⟨(some 17), 272, (some (14, false)), .bi false .gtr (.t 16) (.c (.int .i64 1))⟩,
    ⟨(some 18), 288, (some (14, false)), .mv (.t 17)⟩,
    ⟨(some 19), 304, (some (18, true)), .mv (.t 0)⟩,
    ⟨(some 20), 320, (some (18, true)), .ixs (.t 19) (.c (.int .i64 0))⟩,
    ⟨(some 21), 336, (some (18, true)), .bi false .eql (.t 20) (.c (.int .u8 48))⟩,
    ⟨(some 22), 352, (some (14, false)), .pick (.t 18) (.t 21) (.c (.bool false))⟩,
    ⟨(some 23), 368, none, .pick (.t 14) (.c (.bool true)) (.t 22)⟩])
  (.cond (.t 23) (.seq (.reg [⟨(some 2), 32, none, .mv (.c (.int .i64 0))⟩,
    ⟨(some 3), 48, none, .mv (.c (.bool false))⟩])
  .ret) .skip))
  (.seq (.reg [⟨(some 4), 64, none, .mv (.c (.int .i64 0))⟩])
  (.seq (.seq (.reg [⟨(some 5), 80, none, .mv (.c (.int .i64 0))⟩])
  (.block 0 (.loop c51L1)))
  (.seq (.reg [⟨(some 48), 768, none, .mv (.t 4)⟩,
    ⟨(some 2), 32, none, .mv (.t 48)⟩,
    ⟨(some 3), 48, none, .mv (.c (.bool true))⟩])
  .ret)))))
theorem fits51 : fits Tryd.prog false Tryd.f51 1 49 [(2, none), (3, none)] = some c51.er := by kernel_rfl
def c33L1 : C := (.seq (.reg [⟨(some 23), 368, none, .bi false .lss (.t 22) (.t 21)⟩])
  (.seq (.cond (.t 23) .skip (.exit 0))
  (.seq (.block 1 (.seq (.reg [⟨(some 24), 384, none, .ia 1 (.t 20) (.t 22)⟩,
    ⟨(some 25), 400, none, .ld 1 false (.t 24)⟩,
    ⟨(some 9), 144, none, .mv (.t 25)⟩])
  (.seq (.reg [⟨(some 27), 432, none, .mv (.t 9)⟩,
    ⟨(some 28), 448, none, .call (.c (.fn (.func 51) [] [])) [(.t 27)]⟩,
    ⟨(some 26), 416, none, .mv (.t 28)⟩,
    ⟨(some 29), 464, none, .ex (.t 26) 0⟩,
    ⟨(some 30), 480, none, .ex (.t 26) 1⟩,
    ⟨(some 10), 160, none, .mv (.t 29)⟩,
    ⟨(some 11), 176, none, .mv (.t 30)⟩])
  (.seq (.seq (.reg [⟨(some 31), 496, none, .mv (.t 11)⟩,
    ⟨(some 32), 512, none, .un false .not (.t 31)⟩])
  (.cond (.t 32) (.seq (.reg [⟨(some 4), 64, none, .mv (.c (.nil 1))⟩,
    ⟨(some 5), 80, none, .mv (.c (.bool false))⟩])
  .ret) .skip))
  (.reg [⟨(some 33), 528, none, .mv (.t 6)⟩,
    ⟨(some 34), 544, none, .mv (.t 10)⟩,
    ⟨(some 35), 560, none, .bs 3 1 [(.t 34)]⟩,
    ⟨(some 36), 576, none, .app 3 1 8 (.t 33) (.t 35)⟩,
    ⟨(some 6), 96, none, .mv (.t 36)⟩])))))
  (.reg [⟨(some 37), 592, none, .bi false .add (.t 22) (.c (.int .i64 1))⟩,
    ⟨(some 22), 352, none, .mv (.t 37)⟩]))))
def c33 : C := (.seq (.reg [⟨(some 4), 64, none, .mv (.c (.nil 1))⟩,
    ⟨(some 5), 80, none, .mv (.c (.bool false))⟩])
  (.seq (.reg [⟨(some 6), 96, none, .mv (.c (.nil 1))⟩])
  (.seq (.reg [⟨(some 12), 192, none, .mv (.t 0)⟩,
    ⟨(some 13), 208, none, .call (.c (.fn (.func 32) [] [])) [(.t 12), (.c (.str [32]))]⟩,
    ⟨(some 7), 112, none, .mv (.t 13)⟩])
  (.seq (.seq (.reg [⟨(some 14), 224, none, .mv (.t 7)⟩,
    ⟨(some 15), 240, none, .ia 1 (.t 14) (.c (.int .i64 0))⟩,
    ⟨(some 16), 256, none, .ld 1 false (.t 15)⟩,
    ⟨(some 17), 272, none, .mv (.t 1)⟩,
    ⟨(some 18), 288, none, .bi false .neq (.t 16) (.t 17)⟩])
  (.cond (.t 18) (.seq (.reg [⟨(some 4), 64, none, .mv (.c (.nil 1))⟩,
    ⟨(some 5), 80, none, .mv (.c (.bool false))⟩])
  .ret) .skip))
  (.seq (.seq (.reg [⟨(some 19), 304, none, .mv (.t 7)⟩,
    ⟨(some 20), 320, none, .slc 1 (.t 19) (some (.c (.int .i64 1))) none⟩,
    ⟨(some 21), 336, none, .len (.t 20)⟩,
    ⟨(some 22), 352, none, .mv (.c (.int .i64 0))⟩])
  (.block 0 (.loop c33L1)))
  (.seq (.reg [⟨(some 38), 608, none, .mv (.t 6)⟩,
    ⟨(some 4), 64, none, .mv (.t 38)⟩,
    ⟨(some 5), 80, none, .mv (.c (.bool true))⟩])
  .ret))))))
theorem fits33 : fits Tryd.prog false Tryd.f33 2 39 [(4, none), (5, none)] = some c33.er := by kernel_rfl
def c28L1 : C := (.seq (.reg [⟨(some 10), 160, none, .bi false .lss (.t 9) (.t 8)⟩])
  (.seq (.cond (.t 10) .skip (.exit 0))
  (.seq (.block 1 (.seq (.reg [⟨(some 11), 176, none, .ia 1 (.t 7) (.t 9)⟩,
    ⟨(some 12), 192, none, .ld 1 false (.t 11)⟩,
    ⟨(some 6), 96, none, .mv (.t 12)⟩])
  (.reg [⟨(some 13), 208, none, .mv (.t 0)⟩,
    ⟨(some 14), 224, none, .mv (.t 6)⟩,
    ⟨(some 15), 240, none, .call (.c (.fn (.func 47) [] [])) [(.t 14)]⟩,
    ⟨(some 16), 256, none, .bi false .add (.c (.str [32])) (.t 15)⟩,
    ⟨(some 17), 272, none, .bi false .add (.t 13) (.t 16)⟩,
    ⟨(some 0), 0, none, .mv (.t 17)⟩])))
  (.reg [⟨(some 18), 288, none, .bi false .add (.t 9) (.c (.int .i64 1))⟩,
    ⟨(some 9), 144, none, .mv (.t 18)⟩]))))
def c28 : C := (.seq (.reg [⟨(some 4), 64, none, .mv (.c (.str []))⟩])
  (.seq (.seq (.reg [⟨(some 7), 112, none, .mv (.t 1)⟩,
    ⟨(some 8), 128, none, .len (.t 7)⟩,
    ⟨(some 9), 144, none, .mv (.c (.int .i64 0))⟩])
  (.block 0 (.loop c28L1)))
  (.seq (.reg [⟨(some 19), 304, none, .mv (.t 0)⟩,
    ⟨(some 20), 320, none, .bi false .add (.t 19) (.c (.str [10]))⟩,
    ⟨(some 4), 64, none, .mv (.t 20)⟩])
  .ret)))
theorem fits28 : fits Tryd.prog false Tryd.f28 2 21 [(4, none)] = some c28.er := by kernel_rfl
def c13L1 : C := (.seq (.reg [⟨(some 20), 320, none, .bi false .lss (.t 19) (.t 18)⟩])
  (.seq (.cond (.t 20) .skip (.exit 0))
  (.seq (.block 1 (.seq (.reg [⟨(some 21), 336, none, .mv (.t 19)⟩,
    ⟨(some 22), 352, none, .ia 1 (.t 17) (.t 19)⟩,
    ⟨(some 23), 368, none, .ld 1 false (.t 22)⟩,
    ⟨(some 6), 96, none, .mv (.t 21)⟩,
    ⟨(some 7), 112, none, .mv (.t 23)⟩])
  (.reg [⟨(some 24), 384, none, .mv (.t 5)⟩,
    ⟨(some 25), 400, none, .mv (.t 7)⟩,
    ⟨(some 26), 416, none, .bs 3 1 [(.t 25)]⟩,
    ⟨(some 27), 432, none, .fa 2 (.t 1)⟩,
    ⟨(some 28), 448, none, .ld 1 false (.t 27)⟩,
    ⟨(some 29), 464, none, .mv (.t 6)⟩,
    ⟨(some 30), 480, none, .ia 1 (.t 28) (.t 29)⟩,
    ⟨(some 31), 496, none, .ld 1 false (.t 30)⟩,
    ⟨(some 32), 512, none, .app 3 1 8 (.t 26) (.t 31)⟩,
    ⟨(some 33), 528, none, .call (.c (.fn (.func 28) [] [])) [(.c (.str [108, 101, 118, 101, 108])), (.t 32)]⟩,
    ⟨(some 34), 544, none, .bi false .add (.t 24) (.t 33)⟩,
    ⟨(some 5), 80, none, .mv (.t 34)⟩])))
  (.reg [⟨(some 35), 560, none, .bi false .add (.t 19) (.c (.int .i64 1))⟩,
    ⟨(some 19), 304, none, .mv (.t 35)⟩]))))
def c13 : C := (.seq (.reg [⟨(some 1), 16, none, .bx 3 (.t 0)⟩,
    ⟨(some 2), 32, none, .mv (.c (.str []))⟩,
    ⟨(some 3), 48, none, .mv (.c (.int .i64 0))⟩])
  (.seq (.seq (.reg [⟨(some 8), 128, none, .ld 3 true (.t 1)⟩,
    ⟨(some 9), 144, none, .call (.c (.fn (.func 23) [] [])) [(.t 8)]⟩,
    ⟨(some 4), 64, none, .mv (.t 9)⟩])
  (.seq (.reg [⟨(some 10), 160, none, .mv (.t 4)⟩,
    ⟨(some 11), 176, none, .bi false .neq (.t 10) (.c (.int .i64 0))⟩])
  (.cond (.t 11) (.seq (.reg [⟨(some 12), 192, none, .mv (.t 4)⟩,
    ⟨(some 2), 32, none, .mv (.c (.str []))⟩,
    ⟨(some 3), 48, none, .mv (.t 12)⟩])
  .ret) .skip)))
  (.seq (.reg [⟨(some 13), 208, none, .fa 1 (.t 1)⟩,
    ⟨(some 14), 224, none, .ld 1 false (.t 13)⟩,
    ⟨(some 15), 240, none, .call (.c (.fn (.func 28) [] [])) [(.c (.str [105, 110, 102, 108, 111, 119])), (.t 14)]⟩,
    ⟨(some 5), 80, none, .mv (.t 15)⟩])
  (.seq (.seq (.reg [⟨(some 16), 256, none, .fa 0 (.t 1)⟩,
    ⟨(some 17), 272, none, .ld 1 false (.t 16)⟩,
    ⟨(some 18), 288, none, .len (.t 17)⟩,
    ⟨(some 19), 304, none, .mv (.c (.int .i64 0))⟩])
  (.block 0 (.loop c13L1)))
  (.seq (.reg [⟨(some 36), 576, none, .mv (.t 5)⟩,
    ⟨(some 2), 32, none, .mv (.t 36)⟩,
    ⟨(some 3), 48, none, .mv (.c (.int .i64 0))⟩])
  .ret)))))
theorem fits13 : fits Tryd.prog false Tryd.f13 1 37 [(2, none), (3, none)] = some c13.er := by kernel_rfl
set_option maxRecDepth 100000 in
set_option maxHeartbeats 8000000 in
theorem call51 (s : List UInt8) (hs : s.length ≤ 4611686018427387904) : PureCall Tryd.prog 51 [.str s] [] ⟨.tup [.int .i64 ((numberF s).getD 0), .bool (numberF s).isSome], [], []⟩ := by
  refine pure_call mix Tryd.func51 fits51 rfl ?_
  conv => whnf
  refine ⟨?_, fun hc => ?_, fun hc => ?_⟩
  · exact g0
  · simp only [bp] at hc
    have hn : numberF s = none := by unfold numberF; rw [if_pos (by omega)]
    rw [hn]
    conv => whnf
    refine ⟨?_, [], ?_⟩
    · exact g0
    conv => whnf
    refine ⟨rfl, ?_, trivial, trivial⟩
    all_goals repeat' (first | exact True.intro | refine leF_cons rfl ?_ ?_ | refine leS_cons rfl ?_ ?_ | (show PLe _ _ _ _; conv => whnf) | (show SLe _ _ _ _; conv => whnf) | (show PLeL _ _ _ _; conv => whnf) | apply And.intro | rfl | exact Nat.le_refl _ | exact fun _ _ => rfl | exact rowEq0 _ _)
  simp only [bp] at hc
  have hn : numberF s = digs 0 s := by unfold numberF; rw [if_neg (by omega)]
  have hl : 1 ≤ s.length ∧ s.length ≤ 13 := by omega
  rw [hn]
  clear hn hc hs
  conv => whnf
  refine ⟨?_, ?_⟩
  · exact g0
  refine LSem.loop (n := 49) mix (α := Nat × Int) (fun x => x.1 ≤ s.length ∧ digs x.2 (s.drop x.1) = digs 0 s ∧ 0 ≤ x.2 ∧ x.2 < (10 : Int) ^ x.1)
    (fun x => [(0, .str s), (4, .int .i64 x.2), (5, .int .i64 x.1)])
    (fun x => []) (fun x => s.length - x.1) (0, 0) ?_ ?_ ?_
  · exact ⟨Nat.zero_le _, rfl, Int.le_refl _, by decide⟩
  · refine ⟨rfl, rfl, ?_, ?_⟩
    all_goals repeat' (first | exact True.intro | refine leF_cons rfl ?_ ?_ | refine leS_cons rfl ?_ ?_ | (show PLe _ _ _ _; conv => whnf) | (show SLe _ _ _ _; conv => whnf) | (show PLeL _ _ _ _; conv => whnf) | apply And.intro | rfl | exact Nat.le_refl _ | exact fun _ _ => rfl | exact rowEq0 _ _)
  · intro x hx
    obtain ⟨i, a⟩ := x
    obtain ⟨h1, h2, h3, h4⟩ := hx
    dsimp only at h1 h2 h3 h4
    have hj : ((i : Int)).toNat = i := by omega
    have hpow : (10 : Int) ^ i ≤ 10 ^ 13 := (show ∀ i : Nat, i < 14 → (10 : Int) ^ i ≤ 10 ^ 13 by decide) i (by omega)
    have hu1 : IntKind.u8.min = 0 := by decide
    have hu2 : IntKind.u8.max = 255 := by decide
    have hpow2 : (10 : Int) ^ (i + 1) = 10 * 10 ^ i := by rw [Int.pow_succ, Int.mul_comm]
    have hp13 : (10 : Int) ^ 13 = 10000000000000 := by decide
    rw [hp13] at hpow
    conv => whnf
    refine ⟨trivial, fun hc => ?_, fun hc => ?_⟩
    · replace hc := of_decide_eq_true hc
      have hlt : i < s.length := by
        have h : (i : Int) < s.length := hc
        omega
      have hd := digs_drop a hlt
      have hb : (s.getD i 0).toNat < 256 := UInt8.toNat_lt _
      conv => whnf
      refine ⟨?_, fun hc2 => ?_, fun hc2 => ?_⟩
      · exact g0
      · simp only [bp] at hc2
        rw [hj] at hc2
        have hd0 : digs 0 s = none := by rw [← h2, hd, if_pos (by omega)]
        rw [hd0]
        conv => whnf
        refine ⟨?_, [], ?_⟩
        · exact g0
        conv => whnf
        refine ⟨rfl, ?_, trivial, trivial⟩
        all_goals repeat' (first | exact True.intro | refine leF_cons rfl ?_ ?_ | refine leS_cons rfl ?_ ?_ | (show PLe _ _ _ _; conv => whnf) | (show SLe _ _ _ _; conv => whnf) | (show PLeL _ _ _ _; conv => whnf) | apply And.intro | rfl | exact Nat.le_refl _ | exact fun _ _ => rfl | exact rowEq0 _ _)
      · simp only [bp] at hc2
        rw [hj] at hc2
        rw [if_neg (by omega)] at hd
        conv => whnf
        refine ⟨?_, (i + 1, 10 * a + (((s.getD i 0).toNat : Int) - 48)), ⟨hlt, by rw [← hd]; exact h2, ?_, ?_⟩, ?_, rfl, rfl, ?_, ?_⟩
        · (try conv => whnf)
          rw [hj]
          (repeat' (first | exact True.intro | exact fun _ h => h | refine inR64_of ?_ ?_ | apply And.intro)) <;> (first | omega | (rw [hu1]; omega) | (rw [hu2]; omega))
        · dsimp only; omega
        · dsimp only; rw [hpow2]; omega
        · dsimp only; omega
        all_goals repeat' (first | exact True.intro | refine leF_cons rfl ?_ ?_ | refine leS_cons rfl ?_ ?_ | (show PLe _ _ _ _; conv => whnf) | (show SLe _ _ _ _; conv => whnf) | (show PLeL _ _ _ _; conv => whnf) | apply And.intro | rfl | exact Nat.le_refl _ | exact fun _ _ => rfl | exact rowEq0 _ _)
        all_goals first | omega | (rw [hj]; done) | skip
    · replace hc := of_decide_eq_false hc
      have hk : i = s.length := by
        have h : ¬ (i : Int) < s.length := hc
        omega
      subst hk
      rw [← h2, List.drop_length]
      conv => whnf
      refine ⟨?_, [], ?_⟩
      · exact g0
      conv => whnf
      refine ⟨rfl, ?_, trivial, trivial⟩
      all_goals repeat' (first | exact True.intro | refine leF_cons rfl ?_ ?_ | refine leS_cons rfl ?_ ?_ | (show PLe _ _ _ _; conv => whnf) | (show SLe _ _ _ _; conv => whnf) | (show PLeL _ _ _ _; conv => whnf) | apply And.intro | rfl | exact Nat.le_refl _ | exact fun _ _ => rfl | exact rowEq0 _ _)
set_option maxRecDepth 100000 in
set_option maxHeartbeats 8000000 in
theorem call33 (s word : List UInt8) (hs : s.length < 4294967281) : PureCall Tryd.prog 33 [.str s, .str word] [] ⟨.tup [.sl 0 1 ((numbersF s word).getD []).length (fl eInt ((numbersF s word).getD [])), .bool (numbersF s word).isSome], [], []⟩ := by
  refine pure_call mix Tryd.func33 fits33 rfl ?_
  conv => whnf
  refine ⟨_, fun _ => call32 s 32 hs, ?_⟩
  have hL0 : 0 < (splitC 32 s).length := List.length_pos_iff.2 (splitC_ne 32 s)
  have hL1 := splitC_len 32 s
  unfold numbersF
  generalize splitC 32 s = L at hL0 hL1 ⊢
  conv => whnf
  refine ⟨?_, fun hc => ?_, fun hc => ?_⟩
  · exact g0
  · simp only [bp] at hc
    rw [if_pos hc]
    conv => whnf
    refine ⟨?_, [], ?_⟩
    · exact g0
    conv => whnf
    refine ⟨rfl, ?_, trivial, trivial⟩
    all_goals repeat' (first | exact True.intro | refine leF_cons rfl ?_ ?_ | refine leS_cons rfl ?_ ?_ | (show PLe _ _ _ _; conv => whnf) | (show SLe _ _ _ _; conv => whnf) | (show PLeL _ _ _ _; conv => whnf) | apply And.intro | rfl | exact Nat.le_refl _ | exact fun _ _ => rfl | exact rowEq0 _ _)
  simp only [bp] at hc
  rw [if_neg (fun h => h hc)]
  conv => whnf
  refine ⟨?_, ?_⟩
  · exact g0
  refine LSem.adopt 6 1000000 3 1 1 rfl rfl ?_
  refine LSem.loop (n := 39) mix (α := Nat × List Int) (fun x => x.1 + 1 ≤ L.length ∧ (mapNum (L.drop (x.1 + 1))).map (x.2 ++ ·) = mapNum (L.drop 1) ∧ x.2.length = x.1)
    (fun x => [(6, .os 1000000), (20, .vw false 208 1 (L.length - 1)), (21, .int .i64 (L.length - 1 : Nat)), (22, .int .i64 x.1)])
    (fun x => [(208, .row 0 9 1 L.length (fl eStr L)), (1000000, .row 0 3 1 x.2.length (fl eInt x.2))]) (fun x => L.length - x.1) (0, []) ?_ ?_ ?_
  · refine ⟨hL0, ?_, rfl⟩
    dsimp only
    cases mapNum (L.drop 1) <;> simp
  · refine ⟨rfl, rfl, ?_, ?_⟩
    all_goals repeat' (first | exact True.intro | refine leF_cons rfl ?_ ?_ | refine leS_cons rfl ?_ ?_ | (show PLe _ _ _ _; conv => whnf) | (show SLe _ _ _ _; conv => whnf) | (show PLeL _ _ _ _; conv => whnf) | apply And.intro | rfl | exact Nat.le_refl _ | exact fun _ _ => rfl | exact rowEq0 _ _)
  · intro x hx
    obtain ⟨i, l⟩ := x
    obtain ⟨h1, h2, h3⟩ := hx
    dsimp only at h1 h2 h3
    conv => whnf
    refine ⟨trivial, fun hc2 => ?_, fun hc2 => ?_⟩
    · replace hc2 := of_decide_eq_true hc2
      have hlt : i + 1 < L.length := by
        have h : (i : Int) < (L.length - 1 : Nat) := hc2
        omega
      have hj : 1 + ((i : Int)).toNat = i + 1 := by omega
      have hd := mapNum_drop hlt
      have hsz : (L.getD (i + 1) default).length ≤ 4611686018427387904 := by
        have := hL1.2 _ (getD_mem hlt)
        omega
      conv => whnf
      rw [hj]
      refine ⟨_, fun _ => call51 (L.getD (i + 1) default) hsz, ?_⟩
      generalize numberF (L.getD (i + 1) default) = N at hd
      cases N with
      | none =>
        conv => whnf
        refine ⟨?_, fun _ => ?_, fun h => absurd h (by decide)⟩
        · exact g0
        have hm : mapNum (L.drop 1) = none := by rw [← h2, hd]; rfl
        rw [hm]
        conv => whnf
        refine ⟨?_, [], ?_⟩
        · exact g0
        conv => whnf
        refine ⟨rfl, ?_, trivial, trivial⟩
        all_goals repeat' (first | exact True.intro | refine leF_cons rfl ?_ ?_ | refine leS_cons rfl ?_ ?_ | (show PLe _ _ _ _; conv => whnf) | (show SLe _ _ _ _; conv => whnf) | (show PLeL _ _ _ _; conv => whnf) | apply And.intro | rfl | exact Nat.le_refl _ | exact fun _ _ => rfl | exact rowEq0 _ _)
      | some n =>
        conv => whnf
        refine ⟨?_, fun h => absurd h Bool.false_ne_true, fun _ => ?_⟩
        · exact g0
        conv => whnf
        have q := fl_push eInt l n
        refine ⟨?_, (i + 1, l ++ [n]), ⟨hlt, ?_, ?_⟩, ?_, rfl, rfl, ?_, ?_⟩
        · exact g0
        · rw [← h2, hd]
          dsimp only
          rw [Option.map_map]
          congr 1
          funext x
          simp
        · dsimp only; rw [List.length_append, h3]; rfl
        · dsimp only; omega
        all_goals repeat' (first | exact True.intro | refine leF_cons rfl ?_ ?_ | refine leS_cons rfl ?_ ?_ | (show PLe _ _ _ _; conv => whnf) | (show SLe _ _ _ _; conv => whnf) | (show PLeL _ _ _ _; conv => whnf) | apply And.intro | rfl | exact Nat.le_refl _ | exact fun _ _ => rfl | exact rowEq0 _ _)
        all_goals first | omega | exact q | (simp only [List.length_append, List.length_cons, List.length_nil]; done) | skip
    · replace hc2 := of_decide_eq_false hc2
      have hk : i + 1 = L.length := by
        have h : ¬ (i : Int) < (L.length - 1 : Nat) := hc2
        omega
      have hm : mapNum (L.drop 1) = some l := by rw [← h2, hk, List.drop_length]; simp [mapNum]
      rw [hm]
      conv => whnf
      refine ⟨?_, [], ?_⟩
      · exact g0
      conv => whnf
      refine ⟨rfl, ?_, trivial, trivial⟩
      all_goals repeat' (first | exact True.intro | refine leF_cons rfl ?_ ?_ | refine leS_cons rfl ?_ ?_ | (show PLe _ _ _ _; conv => whnf) | (show SLe _ _ _ _; conv => whnf) | (show PLeL _ _ _ _; conv => whnf) | apply And.intro | rfl | exact Nat.le_refl _ | exact fun _ _ => rfl | exact rowEq0 _ _)
set_option maxRecDepth 100000 in
set_option maxHeartbeats 4000000 in
theorem call28 (τ : Nat) (w : List UInt8) (l : List Int) (hr : I64 l) (h : w.length + 22 * l.length + 1 ≤ 140737488355328) : PureCall Tryd.prog 28 [.str w, .sl τ 1 l.length (fl eInt l)] [] ⟨.str (lineF w l), [], []⟩ := by
  have hlen := numsT_len hr
  refine pure_call mix Tryd.func28 fits28 rfl ?_
  conv => whnf
  refine ⟨?_, ?_⟩
  · exact g0
  refine LSem.loop (n := 21) mix (α := Nat) (fun i => i ≤ l.length)
    (fun i => [(0, .str (w ++ numsT (l.take i))), (7, .sl τ 1 l.length (fl eInt l)), (8, .int .i64 l.length), (9, .int .i64 i)])
    (fun i => []) (fun i => l.length - i) 0 ?_ ?_ ?_
  · exact Nat.zero_le _
  · refine ⟨rfl, rfl, ?_, ?_⟩
    all_goals repeat' (first | exact True.intro | refine leF_cons rfl ?_ ?_ | refine leS_cons rfl ?_ ?_ | (show PLe _ _ _ _; conv => whnf) | (show SLe _ _ _ _; conv => whnf) | (show PLeL _ _ _ _; conv => whnf) | apply And.intro | rfl | exact Nat.le_refl _ | exact fun _ _ => rfl | exact rowEq0 _ _)
    all_goals first | (simp [numsT]; done) | skip
  · intro i hi
    have hj : ((i : Int)).toNat = i := by omega
    conv => whnf
    refine ⟨trivial, fun hc => ?_, fun hc => ?_⟩
    · replace hc := of_decide_eq_true hc
      have hlt : i < l.length := by
        have h : (i : Int) < l.length := hc
        omega
      have h1 := hr i hlt
      have h3 := numsT_step hlt
      conv => whnf
      rw [hj]
      refine ⟨_, fun _ => call47 (l.getD i default) h1.1 h1.2, ?_⟩
      conv => whnf
      have h4 := hlen (i + 1) hlt
      rw [h3] at h4
      simp only [List.length_append, List.length_cons, List.length_nil] at h4
      refine ⟨?_, i + 1, hlt, ?_, rfl, rfl, ?_, ?_⟩
      · (try conv => whnf)
        (repeat' (first | exact True.intro | exact fun _ h => h | refine inR64_of ?_ ?_ | apply And.intro | refine maxLen_ge ?_))
        all_goals (try simp only [List.length_append, List.length_cons, List.length_nil])
        all_goals first | omega | skip
      · omega
      all_goals repeat' (first | exact True.intro | refine leF_cons rfl ?_ ?_ | refine leS_cons rfl ?_ ?_ | (show PLe _ _ _ _; conv => whnf) | (show SLe _ _ _ _; conv => whnf) | (show PLeL _ _ _ _; conv => whnf) | apply And.intro | rfl | exact Nat.le_refl _ | exact fun _ _ => rfl | exact rowEq0 _ _)
      all_goals first | omega | (rw [h3]; simp only [List.append_assoc, List.cons_append, List.nil_append]; done) | skip
    · replace hc := of_decide_eq_false hc
      have hk : i = l.length := by
        have h : ¬ (i : Int) < l.length := hc
        omega
      subst hk
      have h4 := hlen l.length (Nat.le_refl _)
      rw [List.take_length] at h4 ⊢
      conv => whnf
      refine ⟨?_, [], ?_⟩
      · (try conv => whnf)
        (repeat' (first | exact True.intro | exact fun _ h => h | refine inR64_of ?_ ?_ | apply And.intro | refine maxLen_ge ?_))
        all_goals (try simp only [List.length_append, List.length_cons, List.length_nil])
        all_goals first | omega | skip
      conv => whnf
      refine ⟨rfl, ?_, trivial, trivial⟩
      all_goals repeat' (first | exact True.intro | refine leF_cons rfl ?_ ?_ | refine leS_cons rfl ?_ ?_ | (show PLe _ _ _ _; conv => whnf) | (show SLe _ _ _ _; conv => whnf) | (show PLeL _ _ _ _; conv => whnf) | apply And.intro | rfl | exact Nat.le_refl _ | exact fun _ _ => rfl | exact rowEq0 _ _)
set_option maxRecDepth 100000 in
set_option maxHeartbeats 8000000 in
theorem call13 (σ : Nat) (t : FT) (h1 : t.lv.length ≤ 4611686018427387904) (h2 : t.inf.length ≤ 4611686018427387904) (h3 : t.rel.length ≤ 4611686018427387904) (h4 : ∀ i, i < t.rel.length → (t.rel.getD i default).length ≤ 4611686018427387904) :
    PureCall Tryd.prog 13 [.agg (eFT 2 σ t)] [] ⟨.tup [.str (formatF t).1, .int .i64 (formatF t).2], [], []⟩ := by
  refine pure_call mix Tryd.func13 fits13 rfl ?_
  conv => whnf
  refine ⟨_, fun _ => call23 σ t h1 h2 h3 h4, ?_⟩
  have hok := check_ok (t := t)
  unfold formatF
  generalize checkF t = E at hok ⊢
  conv => whnf
  refine ⟨?_, fun hc => ?_, fun hc => ?_⟩
  · exact g0
  · simp only [bp] at hc
    rw [if_pos hc]
    conv => whnf
    refine ⟨?_, [], ?_⟩
    · exact g0
    conv => whnf
    refine ⟨rfl, ?_, trivial, trivial⟩
    all_goals repeat' (first | exact True.intro | refine leF_cons rfl ?_ ?_ | refine leS_cons rfl ?_ ?_ | (show PLe _ _ _ _; conv => whnf) | (show SLe _ _ _ _; conv => whnf) | (show PLeL _ _ _ _; conv => whnf) | apply And.intro | rfl | exact Nat.le_refl _ | exact fun _ _ => rfl | exact rowEq0 _ _)
  simp only [bp] at hc
  rw [if_neg (by omega)]
  have ht := hok (by omega)
  have hl1 := ht.l1
  have hl2 := ht.l2
  have hl3 := ht.l3
  have hinf := lineF_len (w := wInflow) ht.iinf
  have hw : wInflow.length = 6 := rfl
  have hw2 : wLevel.length = 5 := rfl
  conv => whnf
  refine ⟨_, fun _ => call28 2 wInflow t.inf ht.iinf (by omega), ?_⟩
  conv => whnf
  refine ⟨?_, ?_⟩
  · exact g0
  refine LSem.loop (n := 37) mix (α := Nat) (fun i => i ≤ t.lv.length)
    (fun i => [(1, .pt 16 0 0), (5, .str (lineF wInflow t.inf ++ levT t i)), (17, .sl 2 1 t.lv.length (fl eInt t.lv)), (18, .int .i64 t.lv.length), (19, .int .i64 i)])
    (fun i => [(16, .box [.sl 2 1 t.lv.length (fl eInt t.lv), .sl 2 1 t.inf.length (fl eInt t.inf), .sl 2 1 t.rel.length (fl (eIs σ) t.rel)])]) (fun i => t.lv.length - i) 0 ?_ ?_ ?_
  · exact Nat.zero_le _
  · refine ⟨rfl, rfl, ?_, ?_⟩
    all_goals repeat' (first | exact True.intro | refine leF_cons rfl ?_ ?_ | refine leS_cons rfl ?_ ?_ | (show PLe _ _ _ _; conv => whnf) | (show SLe _ _ _ _; conv => whnf) | (show PLeL _ _ _ _; conv => whnf) | apply And.intro | rfl | exact Nat.le_refl _ | exact fun _ _ => rfl | exact rowEq0 _ _)
    all_goals first | (simp [levT]; done) | skip
  · intro i hi
    have hj : ((i : Int)).toNat = i := by omega
    have hlen := levT_len ht i hi
    conv => whnf
    refine ⟨trivial, fun hc => ?_, fun hc => ?_⟩
    · replace hc := of_decide_eq_true hc
      have hlt : i < t.lv.length := by
        have h : (i : Int) < t.lv.length := hc
        omega
      have hrow := ht.row (i := i) (by omega)
      have hi64 := ht.irow hlt
      have hll := lineF_len (w := wLevel) hi64
      rw [List.length_cons] at hll
      conv => whnf
      refine ⟨_, fun _ => PureCall.arg_le (call28 2 wLevel (t.lv.getD i default :: t.rel.getD i default) hi64 (by simp only [List.length_cons]; omega)) rfl (by
        all_goals repeat' (first | exact True.intro | refine leF_cons rfl ?_ ?_ | refine leS_cons rfl ?_ ?_ | (show PLe _ _ _ _; conv => whnf) | (show SLe _ _ _ _; conv => whnf) | (show PLeL _ _ _ _; conv => whnf) | apply And.intro | rfl | exact Nat.le_refl _ | exact fun _ _ => rfl | exact rowEq0 _ _)
        · rw [hj]; show 1 + _ = (t.rel.getD i default).length + 1; omega
        · rw [hj]; exact fl_cons eInt _ _), ?_⟩
      conv => whnf
      refine ⟨?_, i + 1, hlt, ?_, rfl, rfl, ?_, ?_⟩
      · (try conv => whnf)
        rw [hj]
        repeat' (first | exact True.intro | exact fun _ h => h | refine inR64_of ?_ ?_ | apply And.intro | refine maxLen_ge ?_)
        all_goals (try simp only [List.length_cons, List.length_nil, List.length_append])
        all_goals first | omega | skip
      · omega
      all_goals repeat' (first | exact True.intro | refine leF_cons rfl ?_ ?_ | refine leS_cons rfl ?_ ?_ | (show PLe _ _ _ _; conv => whnf) | (show SLe _ _ _ _; conv => whnf) | (show PLeL _ _ _ _; conv => whnf) | apply And.intro | rfl | exact Nat.le_refl _ | exact fun _ _ => rfl | exact rowEq0 _ _)
      all_goals first | omega | (simp only [levT, List.append_assoc]; done) | skip
    · replace hc := of_decide_eq_false hc
      have hk : i = t.lv.length := by
        have h : ¬ (i : Int) < t.lv.length := hc
        omega
      subst hk
      conv => whnf
      refine ⟨?_, [], ?_⟩
      · exact g0
      conv => whnf
      refine ⟨rfl, ?_, trivial, trivial⟩
      all_goals repeat' (first | exact True.intro | refine leF_cons rfl ?_ ?_ | refine leS_cons rfl ?_ ?_ | (show PLe _ _ _ _; conv => whnf) | (show SLe _ _ _ _; conv => whnf) | (show PLeL _ _ _ _; conv => whnf) | apply And.intro | rfl | exact Nat.le_refl _ | exact fun _ _ => rfl | exact rowEq0 _ _)
end Pv
end Go.Proofs.YtcfcmafmdpbjoaaDoor
/- LAW 24, THE WALKS: the second form: texts are read. -/
set_option linter.unusedSimpArgs false
set_option linter.unusedVariables false
namespace Go.Proofs.YtcfcmafmdpbjoaaDoor
namespace Pv
def c15L1 : C := (.seq (.reg [⟨(some 19), 304, none, .bi false .lss (.t 18) (.t 17)⟩])
  (.seq (.cond (.t 19) .skip (.exit 0))
  (.seq (.block 1 (.seq (.reg [⟨(some 20), 320, none, .mv (.t 18)⟩,
    ⟨(some 21), 336, none, .ia 1 (.t 16) (.t 18)⟩,
    ⟨(some 22), 352, none, .ld 1 false (.t 21)⟩,
    ⟨(some 7), 112, none, .mv (.t 20)⟩,
    ⟨(some 8), 128, none, .mv (.t 22)⟩])
  (.seq (.seq (.reg [⟨(some 23), 368, none, .mv (.t 7)⟩,
    ⟨(some 24), 384, none, .mv (.t 6)⟩,
    ⟨(some 25), 400, none, .len (.t 24)⟩,
    ⟨(some 26), 416, none, .bi false .sub (.t 25) (.c (.int .i64 1))⟩,
    ⟨(some 27), 432, none, .bi false .eql (.t 23) (.t 26)⟩])
  (.cond (.t 27) (.seq (.seq (.reg [⟨(some 28), 448, none, .mv (.t 8)⟩,
    ⟨(some 29), 464, none, .bi false .neq (.t 28) (.c (.str []))⟩,
    ⟨(some 30), 480, none, .mv (.t 29)⟩,
    ⟨(some 31), 496, (some (30, false)), .mv (.t 7)⟩,
    ⟨(some 32), 512, (some (30, false)), .bi false .eql (.t 31) (.c (.int .i64 0))⟩,
    ⟨(some 33), 528, none, .pick (.t 30) (.c (.bool true)) (.t 32)⟩])
  (.cond (.t 33) (.seq (.reg [⟨(some 34), 544, none, .bd [(.nil 1), (.nil 1), (.nil 1)] []⟩,
    ⟨(some 35), 560, none, .mv (.t 7)⟩,
    ⟨(some 36), 576, none, .bi false .add (.t 35) (.c (.int .i64 1))⟩,
    ⟨none, 0, none, .st 3 (.t 2) (.t 34)⟩,
    ⟨(some 3), 48, none, .mv (.t 36)⟩,
    ⟨(some 4), 64, none, .mv (.c (.int .i64 7))⟩])
  .ret) .skip))
  (.exit 0)) .skip))
  (.seq (.seq (.reg [⟨(some 37), 592, none, .mv (.t 7)⟩,
    ⟨(some 38), 608, none, .bi false .eql (.t 37) (.c (.int .i64 0))⟩])
  (.cond (.t 38) (.seq (.reg [⟨(some 40), 640, none, .mv (.t 8)⟩,
    ⟨(some 41), 656, none, .call (.c (.fn (.func 33) [] [])) [(.t 40), (.c (.str [105, 110, 102, 108, 111, 119]))]⟩,
    ⟨(some 39), 624, none, .mv (.t 41)⟩,
    ⟨(some 42), 672, none, .ex (.t 39) 0⟩,
    ⟨(some 43), 688, none, .ex (.t 39) 1⟩,
    ⟨(some 9), 144, none, .mv (.t 42)⟩,
    ⟨(some 10), 160, none, .mv (.t 43)⟩])
  (.seq (.seq (.reg [⟨(some 44), 704, none, .mv (.t 10)⟩,
    ⟨(some 45), 720, none, .un false .not (.t 44)⟩])
  (.cond (.t 45) (.seq (.reg [⟨(some 46), 736, none, .bd [(.nil 1), (.nil 1), (.nil 1)] []⟩,
    ⟨none, 0, none, .st 3 (.t 2) (.t 46)⟩,
    ⟨(some 3), 48, none, .mv (.c (.int .i64 1))⟩,
    ⟨(some 4), 64, none, .mv (.c (.int .i64 7))⟩])
  .ret) .skip))
  (.seq (.reg [⟨(some 47), 752, none, .mv (.t 9)⟩,
    ⟨(some 48), 768, none, .fa 1 (.t 5)⟩,
    ⟨none, 0, none, .st 1 (.t 48) (.t 47)⟩])
  (.exit 1)))) .skip))
  (.seq (.reg [⟨(some 50), 800, none, .mv (.t 8)⟩,
    ⟨(some 51), 816, none, .call (.c (.fn (.func 33) [] [])) [(.t 50), (.c (.str [108, 101, 118, 101, 108]))]⟩,
    ⟨(some 49), 784, none, .mv (.t 51)⟩,
    ⟨(some 52), 832, none, .ex (.t 49) 0⟩,
    ⟨(some 53), 848, none, .ex (.t 49) 1⟩,
    ⟨(some 11), 176, none, .mv (.t 52)⟩,
    ⟨(some 12), 192, none, .mv (.t 53)⟩])
  (.seq (.seq (.reg [⟨(some 54), 864, none, .mv (.t 12)⟩,
    ⟨(some 55), 880, none, .un false .not (.t 54)⟩,
    ⟨(some 56), 896, none, .mv (.t 55)⟩,
    ⟨(some 57), 912, (some (56, false)), .mv (.t 11)⟩,
    ⟨(some 58), 928, (some (56, false)), .len (.t 57)⟩,
    ⟨(some 59), 944, (some (56, false)), .bi false .lss (.t 58) (.c (.int .i64 1))⟩,
    ⟨(some 60), 960, none, .pick (.t 56) (.c (.bool true)) (.t 59)⟩])
  (.cond (.t 60) (.seq (.reg [⟨(some 61), 976, none, .bd [(.nil 1), (.nil 1), (.nil 1)] []⟩,
    ⟨(some 62), 992, none, .mv (.t 7)⟩,
    ⟨(some 63), 1008, none, .bi false .add (.t 62) (.c (.int .i64 1))⟩,
    ⟨none, 0, none, .st 3 (.t 2) (.t 61)⟩,
    ⟨(some 3), 48, none, .mv (.t 63)⟩,
    ⟨(some 4), 64, none, .mv (.c (.int .i64 7))⟩])
  .ret) .skip))
  (.drw [⟨(some 64), 1024, none, .fa 0 (.t 5)⟩,
    ⟨(some 65), 1040, none, .ld 1 false (.t 64)⟩,
    ⟨(some 66), 1056, none, .mv (.t 11)⟩,
    ⟨(some 67), 1072, none, .ia 1 (.t 66) (.c (.int .i64 0))⟩,
    ⟨(some 68), 1088, none, .ld 1 false (.t 67)⟩,
    ⟨(some 69), 1104, none, .bs 3 1 [(.t 68)]⟩,
    ⟨(some 70), 1120, none, .app 3 1 8 (.t 65) (.t 69)⟩,
    ⟨(some 71), 1136, none, .fa 2 (.t 5)⟩,
    ⟨(some 72), 1152, none, .ld 1 false (.t 71)⟩,
    ⟨(some 73), 1168, none, .mv (.t 11)⟩,
    ⟨(some 74), 1184, none, .slc 1 (.t 73) (some (.c (.int .i64 1))) none⟩,
    ⟨(some 75), 1200, none, .bs 22 1 [(.t 74)]⟩,
    ⟨(some 76), 1216, none, .app 22 1 24 (.t 72) (.t 75)⟩,
    ⟨(some 77), 1232, none, .fa 0 (.t 5)⟩,
    ⟨none, 0, none, .st 1 (.t 77) (.t 70)⟩,
    ⟨(some 78), 1248, none, .fa 2 (.t 5)⟩,
    ⟨none, 0, none, .st 1 (.t 78) (.t 76)⟩]
    [(0, 2, 64), (0, 3, 64), (0, 4, 64), (0, 5, 64), (0, 7, 64), (0, 8, 64), (0, 9, 64), (0, 10, 64), (0, 11, 64), (1, 2, 65), (1, 3, 65), (1, 4, 65), (1, 5, 65), (1, 7, 65), (1, 8, 65), (1, 9, 65), (1, 10, 65), (1, 11, 65), (2, 7, 66), (2, 8, 66), (2, 9, 66), (2, 10, 66), (2, 11, 66), (3, 7, 67), (3, 8, 67), (3, 9, 67), (3, 10, 67), (3, 11, 67), (4, 7, 68), (4, 8, 68), (4, 9, 68), (4, 10, 68), (4, 11, 68), (5, 7, 69), (5, 8, 69), (5, 9, 69), (5, 10, 69), (5, 11, 69), (6, 7, 70), (6, 8, 70), (6, 9, 70), (6, 10, 70), (6, 11, 70), (7, 9, 71), (7, 10, 71), (7, 11, 71), (8, 9, 72), (8, 10, 72), (8, 11, 72), (9, 13, 73), (10, 13, 74), (11, 13, 75), (12, 13, 76)])))))))
  (.reg [⟨(some 79), 1264, none, .bi false .add (.t 18) (.c (.int .i64 1))⟩,
    ⟨(some 18), 288, none, .mv (.t 79)⟩]))))
def c15 : C := (.seq (.reg [⟨(some 2), 32, none, .al [(.nil 1), (.nil 1), (.nil 1)]⟩,
    ⟨(some 3), 48, none, .mv (.c (.int .i64 0))⟩,
    ⟨(some 4), 64, none, .mv (.c (.int .i64 0))⟩])
  (.seq (.reg [⟨(some 5), 80, none, .al [(.nil 1), (.nil 1), (.nil 1)]⟩])
  (.seq (.reg [⟨(some 14), 224, none, .mv (.t 0)⟩,
    ⟨(some 15), 240, none, .call (.c (.fn (.func 32) [] [])) [(.t 14), (.c (.str [10]))]⟩,
    ⟨(some 6), 96, none, .mv (.t 15)⟩])
  (.seq (.seq (.reg [⟨(some 16), 256, none, .mv (.t 6)⟩,
    ⟨(some 17), 272, none, .len (.t 16)⟩,
    ⟨(some 18), 288, none, .mv (.c (.int .i64 0))⟩])
  (.block 0 (.loop c15L1)))
  (.seq (.seq (.reg [⟨(some 80), 1280, none, .ld 3 true (.t 5)⟩,
    ⟨(some 81), 1296, none, .call (.c (.fn (.func 23) [] [])) [(.t 80)]⟩,
    ⟨(some 13), 208, none, .mv (.t 81)⟩])
  (.seq (.reg [⟨(some 82), 1312, none, .mv (.t 13)⟩,
    ⟨(some 83), 1328, none, .bi false .neq (.t 82) (.c (.int .i64 0))⟩])
  (.cond (.t 83) (.seq (.reg [⟨(some 84), 1344, none, .ld 3 true (.t 5)⟩,
    ⟨(some 85), 1360, none, .mv (.t 13)⟩,
    ⟨none, 0, none, .st 3 (.t 2) (.t 84)⟩,
    ⟨(some 3), 48, none, .mv (.c (.int .i64 0))⟩,
    ⟨(some 4), 64, none, .mv (.t 85)⟩])
  .ret) .skip)))
  (.seq (.reg [⟨(some 86), 1376, none, .ld 3 true (.t 5)⟩,
    ⟨none, 0, none, .st 3 (.t 2) (.t 86)⟩,
    ⟨(some 3), 48, none, .mv (.c (.int .i64 0))⟩,
    ⟨(some 4), 64, none, .mv (.c (.int .i64 0))⟩])
  .ret))))))
theorem fits15 : fits Tryd.prog false Tryd.f15 1 87 [(2, some (3, true)), (3, none), (4, none)] = some c15.er := by kernel_rfl
theorem cond2 {n : Nat} {s : List UInt8} {b : Bool} (h : (bif !(s == []) then true else ((n : Int) == 0)) = b) : (n + 1 = 1 ∨ s ≠ []) ↔ b = true := by
  subst h
  cases hs : (s == []) with
  | true =>
    have e : s = [] := eq_of_beq hs
    subst e
    have : ((n : Int) == 0) = true ↔ n = 0 := by rw [beq_iff_eq]; omega
    simp only [Bool.not_true, cond_false, this]
    simp
  | false =>
    have e : s ≠ [] := beq_eq_false_iff_ne.1 hs
    simp [e]
structure RInv (s0 : List UInt8) (L : List (List UInt8)) (i : Nat) (t : FT) : Prop where
  lt : i < L.length
  eq : pLines (i + 1) (L.drop i) t = parseF s0
  lv : t.lv.length ≤ i
  rl : t.rel.length ≤ i
  inf : t.inf.length ≤ s0.length
  row : ∀ k, k < t.rel.length → (t.rel.getD k default).length ≤ s0.length
set_option maxRecDepth 100000 in
set_option maxHeartbeats 16000000 in
theorem call15 (s0 : List UInt8) (hs : s0.length < 4294967281) : PureCall Tryd.prog 15 [.str s0] [] ⟨.tup [.agg (eFT 0 0 (parseF s0).1), .int .i64 (parseF s0).2.1, .int .i64 (parseF s0).2.2], [], []⟩ := by
  have hpf : pLines 1 (splitC 10 s0) FT0 = parseF s0 := rfl
  refine pure_call mix Tryd.func15 fits15 rfl ?_
  conv => whnf
  refine ⟨_, fun _ => call32 s0 10 hs, ?_⟩
  have hL0 : 0 < (splitC 10 s0).length := List.length_pos_iff.2 (splitC_ne 10 s0)
  have hL1 := splitC_len 10 s0
  generalize splitC 10 s0 = L at hL0 hL1 hpf ⊢
  conv => whnf
  refine ⟨?_, ?_⟩
  · exact g0
  refine LSem.adoptF 80 0 1000000 3 1 1 _ rfl rfl rfl ?_
  refine LSem.adoptF 80 2 1000001 22 1 1 _ rfl rfl rfl ?_
  refine LSem.loop (n := 87) mix (α := Nat × FT) (fun x => RInv s0 L x.1 x.2)
    (fun x => [(2, .pt 32 0 0), (5, .pt 80 0 0), (6, .os 240), (16, .os 240), (17, .int .i64 L.length), (18, .int .i64 x.1)])
    (fun x => [(32, .box [.nil 1, .nil 1, .nil 1]), (80, .box [.os 1000000, .sl 0 1 x.2.inf.length (fl eInt x.2.inf), .os 1000001]), (240, .row 0 9 1 L.length (fl eStr L)), (1000000, .row 0 3 1 x.2.lv.length (fl eInt x.2.lv)), (1000001, .row 0 22 1 x.2.rel.length (fl (eIs 0) x.2.rel))])
    (fun x => L.length - x.1) (0, FT0) ?_ ?_ ?_
  · exact ⟨hL0, hpf, Nat.le_refl _, Nat.le_refl _, Nat.zero_le _, fun i hi => absurd hi (Nat.not_lt_zero _)⟩
  · refine ⟨rfl, rfl, ?_, ?_⟩
    all_goals repeat' (first | exact True.intro | refine leF_cons rfl ?_ ?_ | refine leS_cons rfl ?_ ?_ | (show PLe _ _ _ _; conv => whnf) | (show SLe _ _ _ _; conv => whnf) | (show PLeL _ _ _ _; conv => whnf) | apply And.intro | rfl | exact Nat.le_refl _ | exact fun _ _ => rfl | exact rowEq0 _ _)
  · intro x hx
    obtain ⟨i, t⟩ := x
    dsimp only at hx
    have hlt := hx.lt
    have heq := hx.eq
    have hxl := hL1.2 _ (getD_mem hlt)
    have hj : ((i : Int)).toNat = i := by omega
    have hdrop : L.drop i = L.getD i default :: L.drop (i + 1) := by
      rw [List.drop_eq_getElem_cons hlt]
      congr 1
      simp [List.getD, hlt]
    rw [hdrop] at heq
    conv => whnf
    refine ⟨trivial, fun _ => ?_, fun hc => ?_⟩
    rotate_left
    · replace hc := of_decide_eq_false hc
      have h : ¬ (i : Int) < L.length := hc
      omega
    conv => whnf
    rw [hj]
    generalize L.getD i default = one at heq hxl ⊢
    refine ⟨?_, fun hc => ?_, fun hc => ?_⟩
    · exact g0
    · have hlast : i + 1 = L.length := by
        have := beq_iff_eq.1 hc
        have h : (i : Int) = (L.length : Int) - 1 := this
        omega
      rw [List.drop_of_length_le (by omega)] at heq
      have heq2 : (if i + 1 = 1 ∨ one ≠ [] then (FT0, ((i + 1 : Nat) : Int), (7 : Int)) else (t, 0, checkF t)) = parseF s0 := heq
      conv => whnf
      refine ⟨?_, fun hc2 => ?_, fun hc2 => ?_⟩
      · exact g0
      · have h := (cond2 (n := i) (s := one) hc2).2 rfl
        rw [if_pos h] at heq2
        rw [← heq2]
        conv => whnf
        refine ⟨?_, [], ?_⟩
        · exact g0
        conv => whnf
        refine ⟨rfl, ?_, trivial, trivial⟩
        all_goals repeat' (first | exact True.intro | refine leF_cons rfl ?_ ?_ | refine leS_cons rfl ?_ ?_ | (show PLe _ _ _ _; conv => whnf) | (show SLe _ _ _ _; conv => whnf) | (show PLeL _ _ _ _; conv => whnf) | apply And.intro | rfl | exact Nat.le_refl _ | exact fun _ _ => rfl | exact rowEq0 _ _)
        all_goals first | omega | (show (i : Int) + 1 = ((i + 1 : Nat) : Int); omega) | skip
      · have h : ¬ (i + 1 = 1 ∨ one ≠ []) := fun h => absurd ((cond2 (n := i) (s := one) hc2).1 h) (by decide)
        rw [if_neg h] at heq2
        rw [← heq2]
        conv => whnf
        refine ⟨_, fun _ => PureCall.arg_le (call23 0 t (by have := hx.lv; omega) (by have := hx.inf; omega) (by have := hx.rl; omega) (fun k hk => by have := hx.row k hk; omega)) rfl (by
          all_goals repeat' (first | exact True.intro | refine leF_cons rfl ?_ ?_ | refine leS_cons rfl ?_ ?_ | (show PLe _ _ _ _; conv => whnf) | (show SLe _ _ _ _; conv => whnf) | (show PLeL _ _ _ _; conv => whnf) | apply And.intro | rfl | exact Nat.le_refl _ | exact fun _ _ => rfl | exact rowEq0 _ _)
          all_goals first | omega | exact (by decide) | skip), ?_⟩
        generalize checkF t = E
        conv => whnf
        refine ⟨?_, fun hc3 => ?_, fun hc3 => ?_⟩
        · exact g0
        · conv => whnf
          refine ⟨?_, [], ?_⟩
          · exact g0
          conv => whnf
          refine ⟨rfl, ?_, trivial, trivial⟩
          all_goals repeat' (first | exact True.intro | refine leF_cons rfl ?_ ?_ | refine leS_cons rfl ?_ ?_ | (show PLe _ _ _ _; conv => whnf) | (show SLe _ _ _ _; conv => whnf) | (show PLeL _ _ _ _; conv => whnf) | apply And.intro | rfl | exact Nat.le_refl _ | exact fun _ _ => rfl | exact rowEq0 _ _)
        · simp only [bp] at hc3
          conv => whnf
          refine ⟨?_, [], ?_⟩
          · exact g0
          conv => whnf
          refine ⟨rfl, ?_, trivial, trivial⟩
          all_goals repeat' (first | exact True.intro | refine leF_cons rfl ?_ ?_ | refine leS_cons rfl ?_ ?_ | (show PLe _ _ _ _; conv => whnf) | (show SLe _ _ _ _; conv => whnf) | (show PLeL _ _ _ _; conv => whnf) | apply And.intro | rfl | exact Nat.le_refl _ | exact fun _ _ => rfl | exact rowEq0 _ _)
          all_goals first | omega | (show (0 : Int) = E; omega) | skip
    · have hnl : i + 1 < L.length := by
        have h : ¬ (i : Int) = (L.length : Int) - 1 := fun e => by
          have : ((i : Int) == (L.length : Int) - 1) = true := beq_iff_eq.2 e
          have h2 : ((i : Int) == (L.length : Int) - 1) = false := hc
          rw [this] at h2; cases h2
        omega
      have hne : L.drop (i + 1) ≠ [] := fun e => by
        have := congrArg List.length e
        rw [List.length_drop, List.length_nil] at this
        omega
      have hcons := pLines_cons (n := i + 1) (x := one) (t := t) hne
      rw [heq] at hcons
      conv => whnf
      refine ⟨trivial, fun hc1 => ?_, fun hc1 => ?_⟩
      · have hn1 : i = 0 := by
          have h : ((i : Int) == 0) = true := hc1
          have := beq_iff_eq.1 h
          omega
        subst hn1
        rw [if_pos rfl] at hcons
        conv => whnf
        refine ⟨_, fun _ => call33 one wInflow (by omega), ?_⟩
        generalize hN : numbersF one wInflow = N at hcons ⊢
        cases N with
        | none =>
          conv => whnf
          refine ⟨?_, fun _ => ?_, fun h => absurd h.symm Bool.false_ne_true⟩
          · exact g0
          rw [hcons]
          conv => whnf
          refine ⟨?_, [], ?_⟩
          · exact g0
          conv => whnf
          refine ⟨rfl, ?_, trivial, trivial⟩
          all_goals repeat' (first | exact True.intro | refine leF_cons rfl ?_ ?_ | refine leS_cons rfl ?_ ?_ | (show PLe _ _ _ _; conv => whnf) | (show SLe _ _ _ _; conv => whnf) | (show PLeL _ _ _ _; conv => whnf) | apply And.intro | rfl | exact Nat.le_refl _ | exact fun _ _ => rfl | exact rowEq0 _ _)
        | some l =>
          conv => whnf
          refine ⟨?_, fun h => absurd h Bool.false_ne_true, fun _ => ?_⟩
          · exact g0
          dsimp only at hcons
          have hl := numbersF_len hN
          conv => whnf
          refine ⟨?_, (1, ⟨t.lv, l, t.rel⟩), ⟨hnl, hcons.symm, ?_, ?_, ?_, hx.row⟩, ?_, rfl, rfl, ?_, ?_⟩
          · exact g0
          · have := hx.lv; dsimp only; omega
          · have := hx.rl; dsimp only; omega
          · dsimp only; omega
          · dsimp only; omega
          all_goals repeat' (first | exact True.intro | refine leF_cons rfl ?_ ?_ | refine leS_cons rfl ?_ ?_ | (show PLe _ _ _ _; conv => whnf) | (show SLe _ _ _ _; conv => whnf) | (show PLeL _ _ _ _; conv => whnf) | apply And.intro | rfl | exact Nat.le_refl _ | exact fun _ _ => rfl | exact rowEq0 _ _)
          all_goals first | omega | skip
      · have hn1 : i + 1 ≠ 1 := fun e => by
          have e2 : i = 0 := by omega
          subst e2
          have h3 : (((0 : Nat) : Int) == 0) = false := hc1
          exact absurd h3 (by decide)
        rw [if_neg hn1] at hcons
        conv => whnf
        refine ⟨_, fun _ => call33 one wLevel (by omega), ?_⟩
        generalize hN : numbersF one wLevel = N at hcons ⊢
        cases N with
        | none =>
          conv => whnf
          refine ⟨?_, fun _ => ?_, fun h => absurd h.symm Bool.false_ne_true⟩
          · exact g0
          rw [hcons]
          conv => whnf
          refine ⟨?_, [], ?_⟩
          · exact g0
          conv => whnf
          refine ⟨rfl, ?_, trivial, trivial⟩
          all_goals repeat' (first | exact True.intro | refine leF_cons rfl ?_ ?_ | refine leS_cons rfl ?_ ?_ | (show PLe _ _ _ _; conv => whnf) | (show SLe _ _ _ _; conv => whnf) | (show PLeL _ _ _ _; conv => whnf) | apply And.intro | rfl | exact Nat.le_refl _ | exact fun _ _ => rfl | exact rowEq0 _ _)
          all_goals first | omega | (show (i : Int) + 1 = ((i + 1 : Nat) : Int); omega) | skip
        | some l0 =>
          cases l0 with
          | nil =>
            conv => whnf
            refine ⟨?_, fun _ => ?_, fun h => absurd h.symm Bool.false_ne_true⟩
            · exact g0
            rw [hcons]
            conv => whnf
            refine ⟨?_, [], ?_⟩
            · exact g0
            conv => whnf
            refine ⟨rfl, ?_, trivial, trivial⟩
            all_goals repeat' (first | exact True.intro | refine leF_cons rfl ?_ ?_ | refine leS_cons rfl ?_ ?_ | (show PLe _ _ _ _; conv => whnf) | (show SLe _ _ _ _; conv => whnf) | (show PLeL _ _ _ _; conv => whnf) | apply And.intro | rfl | exact Nat.le_refl _ | exact fun _ _ => rfl | exact rowEq0 _ _)
            all_goals first | omega | (show (i : Int) + 1 = ((i + 1 : Nat) : Int); omega) | skip
          | cons a l =>
            have hl := numbersF_len hN
            rw [List.length_cons] at hl
            dsimp only at hcons
            conv => whnf
            refine ⟨?_, fun h => ?_, fun _ => ?_⟩
            · exact g0
            · have h2 : decide (((a :: l).length : Int) < 1) = true := h
              have h4 := of_decide_eq_true h2
              rw [List.length_cons] at h4
              omega
            conv => whnf
            refine ⟨rfl, ?_⟩
            conv => whnf
            have q1 := fl_push eInt t.lv a
            have q2 := fl_push (eIs 0) t.rel l
            have ef : (fun k => fl eInt (a :: l) (1 + k)) = fl eInt l := by
              funext k
              unfold fl
              rw [Nat.add_comm 1 k]; rfl
            refine ⟨?_, (i + 1, ⟨t.lv ++ [a], t.inf, t.rel ++ [l]⟩), ⟨hnl, hcons.symm, ?_, ?_, hx.inf, ?_⟩, ?_, rfl, rfl, ?_, ?_⟩
            · have hlv := hx.lv
              have hrl := hx.rl
              (try conv => whnf)
              (repeat' (first | exact True.intro | exact fun _ h => h | refine inR64_of ?_ ?_ | apply And.intro | refine maxLen_ge ?_))
              all_goals (try dsimp only [List.length_cons, List.length_nil, Option.getD])
              all_goals first | omega | (show _ ≤ _; simp only [List.length_cons, List.length_nil]; omega) | skip
            · have := hx.lv; dsimp only; rw [List.length_append]; exact Nat.add_le_add_right this 1
            · have := hx.rl; dsimp only; rw [List.length_append]; exact Nat.add_le_add_right this 1
            · intro k hk
              dsimp only at hk ⊢
              rw [List.length_append, List.length_cons, List.length_nil] at hk
              by_cases hi2 : k < t.rel.length
              · have := hx.row k hi2
                rw [List.getD_eq_getElem?_getD] at this ⊢
                rw [List.getElem?_append_left hi2]; exact this
              · have hi3 : k = t.rel.length := by omega
                subst hi3
                rw [List.getD_eq_getElem?_getD, List.getElem?_append_right (Nat.le_refl _), Nat.sub_self]
                show l.length ≤ _
                omega
            · dsimp only; omega
            all_goals repeat' (first | exact True.intro | refine leF_cons rfl ?_ ?_ | refine leS_cons rfl ?_ ?_ | (show PLe _ _ _ _; conv => whnf) | (show SLe _ _ _ _; conv => whnf) | (show PLeL _ _ _ _; conv => whnf) | apply And.intro | rfl | exact Nat.le_refl _ | exact fun _ _ => rfl | exact rowEq0 _ _)
            all_goals first | omega | exact q1 | (show RowEq (t.rel.length + 1) (appF t.rel.length (fl (eIs 0) t.rel) (fun i => [[PV.sl 0 1 l.length (fun k => fl eInt (a :: l) (1 + k))]].getD i [])) _; rw [ef]; exact q2) | (show _ + 1 = _; simp only [List.length_append, List.length_cons, List.length_nil]; done) | skip
end Pv
end Go.Proofs.YtcfcmafmdpbjoaaDoor
/- LAW 24: what texts mean (FloodtableTexts). -/
set_option linter.unusedSimpArgs false
set_option linter.unusedVariables false
namespace Go.Proofs.YtcfcmafmdpbjoaaDoor
namespace Pv
def c3L1 : C := (.seq (.reg [⟨(some 74), 1184, none, .bi false .lss (.t 73) (.t 72)⟩])
  (.seq (.cond (.t 74) .skip (.exit 0))
  (.seq (.block 1 (.seq (.reg [⟨(some 75), 1200, none, .ia 1 (.t 71) (.t 73)⟩,
    ⟨(some 76), 1216, none, .ld 1 false (.t 75)⟩,
    ⟨(some 16), 256, none, .mv (.t 76)⟩])
  (.seq (.reg [⟨(some 78), 1248, none, .mv (.t 16)⟩,
    ⟨(some 79), 1264, none, .call (.c (.fn (.func 14) [] [])) [(.t 78)]⟩,
    ⟨(some 77), 1232, none, .mv (.t 79)⟩,
    ⟨(some 80), 1280, none, .ex (.t 77) 0⟩,
    ⟨(some 81), 1296, none, .ex (.t 77) 1⟩,
    ⟨(some 82), 1312, none, .ex (.t 77) 2⟩,
    ⟨(some 17), 272, none, .al [(.nil 1), (.nil 1), (.nil 1)]⟩,
    ⟨none, 0, none, .st 3 (.t 17) (.t 80)⟩,
    ⟨(some 18), 288, none, .mv (.t 81)⟩,
    ⟨(some 19), 304, none, .mv (.t 82)⟩])
  (.seq (.reg [⟨(some 84), 1344, none, .mv (.t 16)⟩,
    ⟨(some 85), 1360, none, .call (.c (.fn (.func 15) [] [])) [(.t 84)]⟩,
    ⟨(some 83), 1328, none, .mv (.t 85)⟩,
    ⟨(some 86), 1376, none, .ex (.t 83) 0⟩,
    ⟨(some 87), 1392, none, .ex (.t 83) 1⟩,
    ⟨(some 88), 1408, none, .ex (.t 83) 2⟩,
    ⟨(some 20), 320, none, .al [(.nil 1), (.nil 1), (.nil 1)]⟩,
    ⟨none, 0, none, .st 3 (.t 20) (.t 86)⟩,
    ⟨(some 21), 336, none, .mv (.t 87)⟩,
    ⟨(some 22), 352, none, .mv (.t 88)⟩])
  (.seq (.reg [⟨(some 89), 1424, none, .mv (.t 19)⟩,
    ⟨(some 90), 1440, none, .mv (.t 22)⟩,
    ⟨(some 91), 1456, none, .bi false .neq (.t 89) (.t 90)⟩,
    ⟨(some 92), 1472, none, .mv (.t 91)⟩,
    ⟨(some 93), 1488, (some (92, false)), .mv (.t 18)⟩,
    ⟨(some 94), 1504, (some (92, false)), .mv (.t 21)⟩,
    ⟨(some 95), 1520, (some (92, false)), .bi false .neq (.t 93) (.t 94)⟩,
    ⟨(some 96), 1536, none, .pick (.t 92) (.c (.bool true)) (.t 95)⟩,
    ⟨(some 97), 1552, none, .mv (.t 96)⟩,
    ⟨(some 98), 1568, (some (97, false)), .ld 3 true (.t 17)⟩,
    ⟨(some 99), 1584, (some (97, false)), .ld 3 true (.t 20)⟩,
    ⟨(some 100), 1600, (some (97, false)), .call (.c (.fn (.func 16) [] [])) [(.t 98), (.t 99)]⟩,
    ⟨(some 101), 1616, (some (97, false)), .un false .not (.t 100)⟩,
    ⟨(some 102), 1632, none, .pick (.t 97) (.c (.bool true)) (.t 101)⟩])
  (.cond (.t 102) (.seq (.reg [⟨(some 10), 160, none, .mv (.c (.bool false))⟩])
  .ret) .skip))))))
  (.reg [⟨(some 103), 1648, none, .bi false .add (.t 73) (.c (.int .i64 1))⟩,
    ⟨(some 73), 1168, none, .mv (.t 103)⟩]))))
def c3 : C := (.seq (.reg [⟨(some 7), 112, none, .bx 3 (.t 2)⟩,
    ⟨(some 10), 160, none, .mv (.c (.bool false))⟩])
  (.seq (.seq (.reg [⟨(some 27), 432, none, .call (.c (.fn (.func 8) [] [])) []⟩,
    ⟨(some 28), 448, none, .un false .not (.t 27)⟩])
  (.cond (.t 28) (.seq (.reg [⟨(some 10), 160, none, .mv (.c (.bool false))⟩])
  .ret) .skip))
  (.seq (.seq (.reg [⟨(some 29), 464, none, .mv (.t 0)⟩,
    ⟨(some 30), 480, none, .call (.c (.fn (.func 9) [] [])) [(.t 29)]⟩,
    ⟨(some 31), 496, none, .un false .not (.t 30)⟩,
    ⟨(some 32), 512, none, .mv (.t 31)⟩,
    ⟨(some 33), 528, (some (32, false)), .mv (.t 1)⟩,
    ⟨(some 34), 544, (some (32, false)), .lens (.t 33)⟩,
    ⟨(some 35), 560, (some (32, false)), .bi false .gtr (.t 34) (.c (.int .i64 2000))⟩,
    ⟨(some 36), 576, none, .pick (.t 32) (.c (.bool true)) (.t 35)⟩,
    ⟨(some 37), 592, none, .mv (.t 36)⟩,
    ⟨(some 38), 608, (some (37, false)), .ld 3 true (.t 7)⟩,
    ⟨(some 39), 624, (some (37, false)), .call (.c (.fn (.func 10) [] [])) [(.t 38)]⟩,
    ⟨(some 40), 640, (some (37, false)), .un false .not (.t 39)⟩,
    ⟨(some 41), 656, none, .pick (.t 37) (.c (.bool true)) (.t 40)⟩])
  (.cond (.t 41) (.seq (.reg [⟨(some 10), 160, none, .mv (.c (.bool true))⟩])
  .ret) .skip))
  (.seq (.reg [⟨(some 42), 672, none, .mv (.t 0)⟩,
    ⟨(some 43), 688, none, .call (.c (.fn (.func 12) [] [])) [(.t 42)]⟩,
    ⟨(some 44), 704, none, .call (.c (.fn (.func 11) [] [])) [(.t 43)]⟩,
    ⟨(some 11), 176, none, .al [(.nil 1), (.nil 1), (.nil 1)]⟩,
    ⟨none, 0, none, .st 3 (.t 11) (.t 44)⟩])
  (.seq (.reg [⟨(some 46), 736, none, .ld 3 true (.t 11)⟩,
    ⟨(some 47), 752, none, .call (.c (.fn (.func 13) [] [])) [(.t 46)]⟩,
    ⟨(some 45), 720, none, .mv (.t 47)⟩,
    ⟨(some 48), 768, none, .ex (.t 45) 0⟩,
    ⟨(some 49), 784, none, .ex (.t 45) 1⟩,
    ⟨(some 12), 192, none, .mv (.t 48)⟩,
    ⟨(some 13), 208, none, .mv (.t 49)⟩])
  (.seq (.reg [⟨(some 50), 800, none, .mv (.t 12)⟩,
    ⟨(some 51), 816, none, .cvb 5 (.t 50)⟩,
    ⟨(some 14), 224, none, .mv (.t 51)⟩])
  (.seq (.reg [⟨(some 52), 832, none, .mv (.t 14)⟩,
    ⟨(some 53), 848, none, .mv (.t 3)⟩,
    ⟨(some 54), 864, none, .cv false .i64 (.t 53)⟩,
    ⟨(some 55), 880, none, .mv (.t 14)⟩,
    ⟨(some 56), 896, none, .len (.t 55)⟩,
    ⟨(some 57), 912, none, .bi false .rem (.t 54) (.t 56)⟩,
    ⟨(some 58), 928, none, .mv (.t 4)⟩,
    ⟨(some 59), 944, none, .ia 1 (.t 52) (.t 57)⟩,
    ⟨none, 0, none, .st 1 (.t 59) (.t 58)⟩])
  (.seq (.seq (.drw [⟨(some 60), 960, none, .mv (.t 1)⟩,
    ⟨(some 61), 976, none, .mv (.t 12)⟩,
    ⟨(some 62), 992, none, .mv (.t 14)⟩,
    ⟨(some 63), 1008, none, .cvs (.t 62)⟩,
    ⟨(some 64), 1024, none, .mv (.t 12)⟩,
    ⟨(some 65), 1040, none, .mv (.t 3)⟩,
    ⟨(some 66), 1056, none, .cv false .i64 (.t 65)⟩,
    ⟨(some 67), 1072, none, .mv (.t 12)⟩,
    ⟨(some 68), 1088, none, .lens (.t 67)⟩,
    ⟨(some 69), 1104, none, .bi false .rem (.t 66) (.t 68)⟩,
    ⟨(some 70), 1120, none, .slcs (.t 64) none (some (.t 69))⟩,
    ⟨(some 71), 1136, none, .bs 9 1 [(.t 60), (.t 61), (.t 63), (.t 70)]⟩,
    ⟨(some 72), 1152, none, .len (.t 71)⟩,
    ⟨(some 73), 1168, none, .mv (.c (.int .i64 0))⟩]
    [(0, 1, 60), (0, 2, 60), (0, 3, 60), (0, 4, 60), (0, 5, 60), (0, 6, 60), (0, 7, 60), (0, 8, 60), (0, 9, 60), (0, 10, 60), (0, 13, 60), (1, 2, 61), (1, 3, 61), (1, 4, 61), (1, 5, 61), (1, 6, 61), (1, 7, 61), (1, 8, 61), (1, 9, 61), (1, 10, 61), (1, 13, 61), (2, 4, 62), (2, 5, 62), (2, 6, 62), (2, 7, 62), (2, 8, 62), (2, 9, 62), (2, 10, 62), (2, 13, 62), (3, 4, 63), (3, 5, 63), (3, 6, 63), (3, 7, 63), (3, 8, 63), (3, 9, 63), (3, 10, 63), (3, 13, 63), (4, 5, 64), (4, 6, 64), (4, 7, 64), (4, 8, 64), (4, 9, 64), (4, 13, 64), (5, 7, 65), (5, 8, 65), (5, 13, 65), (6, 7, 66), (6, 8, 66), (6, 13, 66), (7, 13, 67), (8, 13, 68), (9, 13, 69), (10, 13, 70), (11, 13, 71), (12, 13, 72)])
  (.block 0 (.loop c3L1)))
  (.seq (.reg [⟨(some 105), 1680, none, .ld 3 true (.t 7)⟩,
    ⟨(some 106), 1696, none, .call (.c (.fn (.func 17) [] [])) [(.t 105)]⟩,
    ⟨(some 104), 1664, none, .mv (.t 106)⟩,
    ⟨(some 107), 1712, none, .ex (.t 104) 0⟩,
    ⟨(some 108), 1728, none, .ex (.t 104) 1⟩,
    ⟨(some 23), 368, none, .mv (.t 107)⟩,
    ⟨(some 24), 384, none, .mv (.t 108)⟩])
  (.seq (.reg [⟨(some 110), 1760, none, .ld 3 true (.t 7)⟩,
    ⟨(some 111), 1776, none, .call (.c (.fn (.func 13) [] [])) [(.t 110)]⟩,
    ⟨(some 109), 1744, none, .mv (.t 111)⟩,
    ⟨(some 112), 1792, none, .ex (.t 109) 0⟩,
    ⟨(some 113), 1808, none, .ex (.t 109) 1⟩,
    ⟨(some 25), 400, none, .mv (.t 112)⟩,
    ⟨(some 26), 416, none, .mv (.t 113)⟩])
  (.seq (.reg [⟨(some 114), 1824, none, .mv (.t 24)⟩,
    ⟨(some 115), 1840, none, .mv (.t 26)⟩,
    ⟨(some 116), 1856, none, .bi false .eql (.t 114) (.t 115)⟩,
    ⟨(some 117), 1872, none, .mv (.t 116)⟩,
    ⟨(some 118), 1888, (some (117, true)), .mv (.t 23)⟩,
    ⟨(some 119), 1904, (some (117, true)), .mv (.t 25)⟩,
    ⟨(some 120), 1920, (some (117, true)), .bi false .eql (.t 118) (.t 119)⟩,
    ⟨(some 121), 1936, none, .pick (.t 117) (.t 120) (.c (.bool false))⟩,
    ⟨(some 10), 160, none, .mv (.t 121)⟩])
  .ret)))))))))))
theorem fits3 : fits Tryd.prog false Tryd.f3 5 122 [(10, none)] = some c3.er := by kernel_rfl
theorem strOf_len (n : Nat) (f : Nat → List PV) : (strOf n f).length = n := by simp [strOf]
theorem areBytes_set {s : List UInt8} {i : Nat} {n : Int} (h : 0 ≤ n ∧ n ≤ 255) :
    areBytes s.length (fun k => if k = i then setAt [PV.int .u8 ((s.getD i 0).toNat : Int)] 0 [.int .u8 n] else [.int .u8 ((s.getD k 0).toNat : Int)]) := fun k _ => by
  by_cases e : k = i
  · refine ⟨UInt8.ofNat n.toNat, ?_⟩
    dsimp only
    rw [if_pos e]
    have : (UInt8.ofNat n.toNat).toNat = n.toNat := by
      rw [UInt8.toNat_ofNat']; omega
    rw [this]
    have : ((n.toNat : Nat) : Int) = n := by omega
    rw [this]; rfl
  · exact ⟨s.getD k 0, by dsimp only; rw [if_neg e]⟩
theorem rowEq4 {α : Type} [Inhabited α] {e : α → List PV} {a b c d : α} {f : Nat → List PV} (h0 : f 0 = e a) (h1 : f 1 = e b) (h2 : f 2 = e c) (h3 : f 3 = e d) : RowEq 4 f (fl e [a, b, c, d]) := fun i hi => by
  match i, hi with
  | 0, _ => exact h0
  | 1, _ => exact h1
  | 2, _ => exact h2
  | 3, _ => exact h3
structure LensOK (t : FT) (M N : Nat) : Prop where
  lv : t.lv.length ≤ M
  rel : t.rel.length ≤ M
  inf : t.inf.length ≤ N
  row : ∀ i, i < t.rel.length → (t.rel.getD i default).length ≤ N
theorem LensOK.zero (M N : Nat) : LensOK FT0 M N := ⟨Nat.zero_le _, Nat.zero_le _, Nat.zero_le _, fun i hi => absurd hi (Nat.not_lt_zero i)⟩
theorem LensOK.mono {t : FT} {M M' N : Nat} (h : LensOK t M N) (hm : M ≤ M') : LensOK t M' N := ⟨Nat.le_trans h.lv hm, Nat.le_trans h.rel hm, h.inf, h.row⟩
theorem pLines_lens (N : Nat) : ∀ (L : List (List UInt8)) (n : Nat) (t : FT) (M : Nat), (∀ x ∈ L, x.length ≤ N) → LensOK t M N → LensOK (pLines n L t).1 (M + L.length) N
  | [], n, t, M, hx, h => h
  | x :: r, n, t, M, hx, h => by
    by_cases hr : r = []
    · subst hr
      show LensOK (if n = 1 ∨ x ≠ [] then (FT0, (n : Int), (7 : Int)) else (t, 0, checkF t)).1 _ _
      split
      · exact .zero _ _
      · exact h.mono (Nat.le_add_right _ _)
    · rw [pLines_cons hr]
      split
      · cases hN : numbersF x wInflow with
        | none => exact .zero _ _
        | some l =>
          have hl := numbersF_len hN
          have h0 := hx x (List.mem_cons_self ..)
          have := pLines_lens N r 2 ⟨t.lv, l, t.rel⟩ M (fun y hy => hx y (List.mem_cons_of_mem _ hy)) ⟨h.lv, h.rel, by show l.length ≤ N; omega, h.row⟩
          exact this.mono (by simp only [List.length_cons]; omega)
      · cases hN : numbersF x wLevel with
        | none => exact .zero _ _
        | some l =>
          cases l with
          | nil => exact .zero _ _
          | cons a l =>
            have hl := numbersF_len hN
            have h0 := hx x (List.mem_cons_self ..)
            simp only [List.length_cons] at hl
            have h1 := h.lv
            have h2 := h.rel
            have := pLines_lens N r (n + 1) ⟨t.lv ++ [a], t.inf, t.rel ++ [l]⟩ (M + 1) (fun y hy => hx y (List.mem_cons_of_mem _ hy)) ⟨by show (t.lv ++ [a]).length ≤ _; rw [List.length_append]; exact Nat.add_le_add_right h1 1, by show (t.rel ++ [l]).length ≤ _; rw [List.length_append]; exact Nat.add_le_add_right h2 1, h.inf, fun i hi => by
              show ((t.rel ++ [l]).getD i default).length ≤ N
              by_cases e : i < t.rel.length
              · rw [List.getD, List.getElem?_append_left e]
                exact h.row i e
              · have hi' : i < (t.rel ++ [l]).length := hi
                rw [List.length_append] at hi'
                have e2 : i = t.rel.length := by simp at hi'; omega
                subst e2
                rw [List.getD, List.getElem?_append_right (Nat.le_refl _)]
                simp; omega⟩
            exact this.mono (by simp only [List.length_cons]; omega)
theorem parse_lens (s : List UInt8) (h : s.length ≤ 4294967280) : (parseF s).1.lv.length ≤ 4611686018427387904 ∧ (parseF s).1.inf.length ≤ 4611686018427387904 ∧ (parseF s).1.rel.length ≤ 4611686018427387904 ∧ ∀ i, i < (parseF s).1.rel.length → ((parseF s).1.rel.getD i default).length ≤ 4611686018427387904 := by
  obtain ⟨h1, h2⟩ := splitC_len 10 s
  have := pLines_lens s.length (splitC 10 s) 1 FT0 0 h2 (.zero _ _)
  have a := this.lv
  have b := this.rel
  have c := this.inf
  refine ⟨by unfold parseF; omega, by unfold parseF; omega, by unfold parseF; omega, fun i hi => ?_⟩
  have := this.row i hi
  unfold parseF; omega
theorem body_pos (t : FT) : 0 < (bodyT t).length := by
  unfold bodyT lineF
  simp only [List.length_append, List.length_cons]
  omega
set_option maxRecDepth 100000 in
set_option maxHeartbeats 16000000 in
theorem call3 (l : List Int) (s : List UInt8) (raw : FT) (at_ by_ : Int) (h1 : 0 ≤ at_ ∧ at_ ≤ 255) (h2 : 0 ≤ by_ ∧ by_ ≤ 255)
    (r1 : raw.lv.length ≤ 4611686018427387904) (r2 : raw.inf.length ≤ 4611686018427387904) (r3 : raw.rel.length ≤ 4611686018427387904) (r4 : ∀ i, i < raw.rel.length → (raw.rel.getD i default).length ≤ 4611686018427387904) :
    PureCall Tryd.prog 3 [.sl 1 1 l.length (fl eInt l), .str s, .agg (eFT 1 1 raw), .int .u8 at_, .int .u8 by_] [] ⟨.bool true, [], []⟩ := by
  refine pure_call mix Tryd.func3 fits3 rfl ?_
  conv => whnf
  refine ⟨_, fun _ => call8, ?_⟩
  conv => whnf
  refine ⟨?_, fun h => absurd h Bool.false_ne_true, fun _ => ?_⟩
  · exact g0
  conv => whnf
  refine ⟨_, fun _ => call9 1 l, ?_⟩
  conv => whnf
  refine ⟨_, fun _ => PureCall.arg_le (call10 1 raw r3) rfl (by
    all_goals repeat' (first | exact True.intro | refine leF_cons rfl ?_ ?_ | refine leS_cons rfl ?_ ?_ | (show PLe _ _ _ _; conv => whnf) | (show SLe _ _ _ _; conv => whnf) | (show PLeL _ _ _ _; conv => whnf) | apply And.intro | rfl | exact Nat.le_refl _ | exact fun _ _ => rfl | exact rowEq0 _ _)
    all_goals first | omega | exact (by decide) | skip), ?_⟩
  conv => whnf
  refine ⟨?_, fun hc => ?_, fun hc => ?_⟩
  · exact g0
  · conv => whnf
    refine ⟨?_, [], ?_⟩
    · exact g0
    conv => whnf
    refine ⟨rfl, ?_, trivial, trivial⟩
    all_goals repeat' (first | exact True.intro | refine leF_cons rfl ?_ ?_ | refine leS_cons rfl ?_ ?_ | (show PLe _ _ _ _; conv => whnf) | (show SLe _ _ _ _; conv => whnf) | (show PLeL _ _ _ _; conv => whnf) | apply And.intro | rfl | exact Nat.le_refl _ | exact fun _ _ => rfl | exact rowEq0 _ _)
  simp only [bp] at hc
  conv => whnf
  refine ⟨_, fun _ => call_new 1 l, ?_⟩
  conv => whnf
  refine ⟨_, fun _ => call11 ⟨l, 0⟩ (by dsimp only; omega), ?_⟩
  have ha0 := tab_ok ⟨l, 0⟩
  generalize (tabF ⟨l, 0⟩).2 = D
  generalize (tabF ⟨l, 0⟩).1 = a at ha0 ⊢
  have ha := check_ok ha0
  have a1 := ha.l1
  have a2 := ha.l2
  have a3 := ha.l3
  have a4 := tab_rows ha
  conv => whnf
  refine ⟨_, fun _ => PureCall.arg_le (call13 0 a (by omega) (by omega) (by omega) a4) rfl (by
    all_goals repeat' (first | exact True.intro | refine leF_cons rfl ?_ ?_ | refine leS_cons rfl ?_ ?_ | (show PLe _ _ _ _; conv => whnf) | (show SLe _ _ _ _; conv => whnf) | (show PLeL _ _ _ _; conv => whnf) | apply And.intro | rfl | exact Nat.le_refl _ | exact fun _ _ => rfl | exact rowEq0 _ _)
    all_goals first | omega | exact (by decide) | skip), ?_⟩
  rw [format_ok ha0]
  have hwp := body_pos a
  have hwl := body_len ha
  generalize bodyT a = w at hwp hwl ⊢
  conv => whnf
  refine ⟨rfl, ?_⟩
  have hw0 : (0 : Int) < (w.length : Int) := by omega
  have hm1 : 0 ≤ at_.tmod (w.length : Int) := Int.tmod_nonneg _ h1.1
  have hm2 : at_.tmod (w.length : Int) < (w.length : Int) := Int.tmod_lt_of_pos _ hw0
  obtain ⟨X, hX⟩ : ∃ X, X = strOf w.length (fun k => if k = (at_.tmod (w.length : Int)).toNat then setAt [PV.int .u8 ((w.getD (at_.tmod (w.length : Int)).toNat 0).toNat : Int)] 0 [.int .u8 by_] else [.int .u8 ((w.getD k 0).toNat : Int)]) := ⟨_, rfl⟩
  have hXl : X.length = w.length := by rw [hX, strOf_len]
  obtain ⟨L, hL⟩ : ∃ L, L = [s, w, X, w.take (at_.tmod (w.length : Int)).toNat] := ⟨_, rfl⟩
  have hLb : ∀ i, i < 4 → (L.getD i default).length ≤ 30000 := fun i hi => by
    rw [hL]
    match i, hi with
    | 0, _ => show s.length ≤ _; omega
    | 1, _ => exact hwl
    | 2, _ => show X.length ≤ _; omega
    | 3, _ => show (w.take _).length ≤ _; rw [List.length_take]; omega
  conv => whnf
  refine ⟨?_, ?_⟩
  · (try conv => whnf)
    (repeat' (first | exact True.intro | exact areBytes_set h2 | exact fun _ h => h | refine inR64_of ?_ ?_ | apply And.intro | refine maxLen_ge ?_)) <;> (first | omega | (dsimp only; omega) | (dsimp only [List.length_cons, List.length_nil]; omega))
  refine LSem.loop (n := 122) mix (α := Nat) (fun i => i ≤ 4)
    (fun i => [(7, .pt 112 0 0), (71, .os 1136), (72, .int .i64 4), (73, .int .i64 i)])
    (fun i => [(112, .box (eFT 1 1 raw)), (1136, .row 0 9 1 4 (fl eStr L))]) (fun i => 4 - i) 0 ?_ ?_ ?_
  · exact Nat.zero_le _
  · refine ⟨rfl, rfl, ?_, ?_⟩
    all_goals repeat' (first | exact True.intro | refine leF_cons rfl ?_ ?_ | refine leS_cons rfl ?_ ?_ | (show PLe _ _ _ _; conv => whnf) | (show SLe _ _ _ _; conv => whnf) | (show PLeL _ _ _ _; conv => whnf) | apply And.intro | rfl | exact Nat.le_refl _ | exact fun _ _ => rfl | exact rowEq0 _ _)
    all_goals first | (rw [hL]; exact rowEq4 rfl rfl (by rw [hX]; rfl) rfl) | skip
  · intro i hi
    have hji : ((i : Int)).toNat = i := by omega
    conv => whnf
    refine ⟨trivial, fun hc2 => ?_, fun hc2 => ?_⟩
    · replace hc2 := of_decide_eq_true hc2
      have hlt : i < 4 := by
        have h : (i : Int) < 4 := hc2
        omega
      have hb := hLb i hlt
      conv => whnf
      rw [hji]
      generalize L.getD i default = v at hb ⊢
      refine ⟨_, fun _ => call14 v (by omega), ?_⟩
      conv => whnf
      refine ⟨_, fun _ => call15 v (by omega), ?_⟩
      have hbt := parse_lens v (by omega)
      generalize parseF v = R at hbt ⊢
      obtain ⟨b1, b2, b3, b4⟩ := hbt
      conv => whnf
      refine ⟨_, fun _ => PureCall.arg_le (call16 0 0 R.1 R.1 b1 b2 b3 b4) rfl (by
        all_goals repeat' (first | exact True.intro | refine leF_cons rfl ?_ ?_ | refine leS_cons rfl ?_ ?_ | (show PLe _ _ _ _; conv => whnf) | (show SLe _ _ _ _; conv => whnf) | (show PLeL _ _ _ _; conv => whnf) | apply And.intro | rfl | exact Nat.le_refl _ | exact fun _ _ => rfl | exact rowEq0 _ _)
        all_goals first | omega | exact (by decide) | skip), ?_⟩
      rw [same_iff.2 rfl]
      conv => whnf
      refine ⟨?_, fun h => ?_, fun _ => ?_⟩
      · exact g0
      · exfalso
        revert h
        simp
      conv => whnf
      refine ⟨?_, i + 1, hlt, ?_, rfl, rfl, ?_, ?_⟩
      · exact g0
      · omega
      all_goals repeat' (first | exact True.intro | refine leF_cons rfl ?_ ?_ | refine leS_cons rfl ?_ ?_ | (show PLe _ _ _ _; conv => whnf) | (show SLe _ _ _ _; conv => whnf) | (show PLeL _ _ _ _; conv => whnf) | apply And.intro | rfl | exact Nat.le_refl _ | exact fun _ _ => rfl | exact rowEq0 _ _)
      all_goals first | omega | skip
    · replace hc2 := of_decide_eq_false hc2
      conv => whnf
      refine ⟨_, fun _ => PureCall.arg_le (call17 1 raw r1 r2 r3 r4) rfl (by
        all_goals repeat' (first | exact True.intro | refine leF_cons rfl ?_ ?_ | refine leS_cons rfl ?_ ?_ | (show PLe _ _ _ _; conv => whnf) | (show SLe _ _ _ _; conv => whnf) | (show PLeL _ _ _ _; conv => whnf) | apply And.intro | rfl | exact Nat.le_refl _ | exact fun _ _ => rfl | exact rowEq0 _ _)
        all_goals first | omega | exact (by decide) | skip), ?_⟩
      conv => whnf
      refine ⟨_, fun _ => PureCall.arg_le (call13 1 raw r1 r2 r3 r4) rfl (by
        all_goals repeat' (first | exact True.intro | refine leF_cons rfl ?_ ?_ | refine leS_cons rfl ?_ ?_ | (show PLe _ _ _ _; conv => whnf) | (show SLe _ _ _ _; conv => whnf) | (show PLeL _ _ _ _; conv => whnf) | apply And.intro | rfl | exact Nat.le_refl _ | exact fun _ _ => rfl | exact rowEq0 _ _)
        all_goals first | omega | exact (by decide) | skip), ?_⟩
      generalize formatF raw = F
      conv => whnf
      refine ⟨?_, [], ?_⟩
      · exact g0
      conv => whnf
      refine ⟨rfl, ?_, trivial, trivial⟩
      all_goals repeat' (first | exact True.intro | refine leF_cons rfl ?_ ?_ | refine leS_cons rfl ?_ ?_ | (show PLe _ _ _ _; conv => whnf) | (show SLe _ _ _ _; conv => whnf) | (show PLeL _ _ _ _; conv => whnf) | apply And.intro | rfl | exact Nat.le_refl _ | exact fun _ _ => rfl | exact rowEq0 _ _)
      simp
end Pv
end Go.Proofs.YtcfcmafmdpbjoaaDoor
set_option linter.unusedSimpArgs false
set_option linter.unusedVariables false
namespace Go.Proofs.YtcfcmafmdpbjoaaDoor
namespace Pv
open Go.RowKit
theorem evK_mono {S : FuncId → List PV → List SE → CallRes → Prop} {lg : Bool} : ∀ {l : List Ins} {i : Nat} {s : PS} {K K' : PS → Prop}, evK S lg i l s K → (∀ s, K s → K' s) → evK S lg i l s K'
  | [], i, s, K, K', h, hk => hk s h
  | x :: l, i, s, K, K', h, hk => by
    simp only [evK] at h ⊢
    split
    · rename_i hc
      simp only [hc] at h
      split
      · rename_i G id args bs hat
        simp only [hat] at h
        obtain ⟨c, hS, h⟩ := h
        refine ⟨c, hS, ?_⟩
        split
        · rename_i s1 h1
          simp only [h1] at h
          exact evK_mono h hk
        · rename_i h1
          simp only [h1] at h
      · rename_i hat
        simp only [hat] at h
    · rename_i hc
      simp only [hc] at h
      split
      · rename_i s1 h1
        simp only [h1] at h
        exact evK_mono h hk
      · rename_i h1
        simp only [h1] at h
inductive Hav (v : Int) : Bool → PV → PV → Prop where
  | refl (m : Bool) (p : PV) : Hav v m p p
  | int (k : IntKind) (n : Int) : Hav v true (.int k n) (.int k v)
  | agg (m : Bool) (cs cs' : List PV) (hl : cs'.length = cs.length) (h : ∀ (k : Nat) (c c' : PV), cs[k]? = some c → cs'[k]? = some c' → Hav v false c c') : Hav v m (.agg cs) (.agg cs')
  | tup (m : Bool) (cs cs' : List PV) (hl : cs'.length = cs.length) (h : ∀ (k : Nat) (c c' : PV), cs[k]? = some c → cs'[k]? = some c' → Hav v false c c') : Hav v m (.tup cs) (.tup cs')
  | fn (m : Bool) (f : Fn) (a b a' b' : List PV) (hl : a'.length = a.length) (hl' : b'.length = b.length) (h : ∀ (k : Nat) (c c' : PV), a[k]? = some c → a'[k]? = some c' → Hav v false c c')
      (h' : ∀ (k : Nat) (c c' : PV), b[k]? = some c → b'[k]? = some c' → Hav v false c c') : Hav v m (.fn f a b) (.fn f a' b')
  | cnd (m : Bool) (g : Bool) (p p' : PV) (h : Hav v false p p') : Hav v m (.cnd g p) (.cnd g p')
  | sl (m : Bool) (τ z n : Nat) (f f' : Nat → List PV) (hl : ∀ i, i < n → (f' i).length = (f i).length)
      (h : ∀ (i j : Nat) (c c' : PV), i < n → (f i)[j]? = some c → (f' i)[j]? = some c' → Hav v true (c.mark τ) (c'.mark τ)) : Hav v m (.sl τ z n f) (.sl τ z n f')
  | rp (m : Bool) (τ : Nat) (cs cs' : List PV) (hl : cs'.length = cs.length) (h : ∀ (k : Nat) (c c' : PV), cs[k]? = some c → cs'[k]? = some c' → Hav v true (c.mark τ) (c'.mark τ)) : Hav v m (.rp τ cs) (.rp τ cs')
theorem Hav.up {v : Int} {p q : PV} (h : Hav v false p q) : Hav v true p q := by
  cases h with
  | refl m p => exact .refl _ _
  | agg m cs cs' hl h => exact .agg _ _ _ hl h
  | tup m cs cs' hl h => exact .tup _ _ _ hl h
  | fn m f a b a' b' hl hl' h h' => exact .fn _ _ _ _ _ _ hl hl' h h'
  | cnd m g p p' h => exact .cnd _ _ _ _ h
  | sl m τ z n f f' hl h => exact .sl _ _ _ _ _ _ hl h
  | rp m τ cs cs' hl h => exact .rp _ _ _ _ hl h
theorem Hav.mark_ {v : Int} {m : Bool} {c q : PV} {τ : Nat} (h : Hav v m (c.mark τ) q) : q.mark τ = q := by
  cases c with
  | sl τ' z n f => simp only [PV.mark] at h; cases h <;> rfl
  | rp τ' cs => simp only [PV.mark] at h; cases h <;> rfl
  | _ => simp only [PV.mark] at h; cases h <;> rfl
theorem Hav.flat_ {v : Int} {m : Bool} {p q : PV} (h : Hav v m p q) (hf : p.flat = true) : q.flat = true := by
  cases h with
  | refl m p => exact hf
  | int k n => rfl
  | fn m f a b a' b' hl hl' h h' =>
    obtain ⟨rfl, rfl⟩ := flat_fn hf
    have e1 : a' = [] := List.eq_nil_of_length_eq_zero hl
    have e2 : b' = [] := List.eq_nil_of_length_eq_zero hl'
    subst e1 e2; rfl
  | sl m τ z n f f' hl h => rfl
  | _ => simp [PV.flat] at hf
theorem pick_list {G : Nat → PV → PV → Prop} : ∀ (l : List PV), (∀ j c, l[j]? = some c → ∃ c', G j c c') → ∃ l' : List PV, l'.length = l.length ∧ ∀ j c c', l[j]? = some c → l'[j]? = some c' → G j c c'
  | [], _ => ⟨[], rfl, fun j c c' h => by simp at h⟩
  | p :: l, h => by
    obtain ⟨q, hq⟩ := h 0 p rfl
    obtain ⟨l', h1, h2⟩ := pick_list (G := fun j => G (j + 1)) l (fun j c hj => h (j + 1) c (by simpa using hj))
    refine ⟨q :: l', by simp [h1], fun j c c' hc hc' => ?_⟩
    cases j with
    | zero => simp only [List.getElem?_cons_zero, Option.some.injEq] at hc hc'; subst hc hc'; exact hq
    | succ j => exact h2 j c c' (by simpa using hc) (by simpa using hc')
theorem pick_rows {n : Nat} {f : Nat → List PV} {G : Nat → Nat → PV → PV → Prop} (h : ∀ i, i < n → ∀ j c, (f i)[j]? = some c → ∃ c', G i j c c') :
    ∃ f' : Nat → List PV, ∀ i, i < n → (f' i).length = (f i).length ∧ ∀ j c c', (f i)[j]? = some c → (f' i)[j]? = some c' → G i j c c' := by
  have hx : ∀ i, ∃ l' : List PV, i < n → l'.length = (f i).length ∧ ∀ j c c', (f i)[j]? = some c → l'[j]? = some c' → G i j c c' := fun i => by
    by_cases hi : i < n
    · obtain ⟨l', h1, h2⟩ := pick_list (f i) (h i hi)
      exact ⟨l', fun _ => ⟨h1, h2⟩⟩
    · exact ⟨[], fun h => absurd h hi⟩
  exact ⟨fun i => Classical.choose (hx i), fun i hi => Classical.choose_spec (hx i) hi⟩
theorem get_both {l l' : List PV} (hl : l'.length = l.length) {j : Nat} {c' : PV} (h : l'[j]? = some c') : ∃ c, l[j]? = some c := by
  have := (List.getElem?_eq_some_iff.1 h).1
  exact ⟨l[j]'(by omega), List.getElem?_eq_getElem (by omega)⟩
section
variable {X : Cx} {γ : Gh} {w : World} {A : Addr} {k0 : IntKind} {n0 v : Int}
abbrev putW (w : World) (A : Addr) (k0 : IntKind) (v : Int) : World := w.setCell A (.int k0 v)
theorem putW_size : (putW w A k0 v).heap.size = w.heap.size := by simp [putW, World.setCell]
theorem putW_block {b : Nat} (h : b ≠ A.block) : (putW w A k0 v).heap[b]? = w.heap[b]? := Below.heap_setCell w A _ b h
theorem spot_none {a : Addr} {u : Value} (h : w.cell? a = some u) : a.spot = none := by
  unfold World.cell? at h
  split at h
  · split at h
    · cases h
    · rename_i hs; cases hsp : a.spot with
      | none => rfl
      | some _ => rw [hsp] at hs; simp at hs
  · cases h
theorem putW_frozen (a : Addr) : (putW w A k0 v).frozen? a = w.frozen? a := by
  by_cases hb : a.block = A.block
  · unfold World.frozen?
    simp only [putW, World.setCell, hb]
    by_cases hlt : A.block < w.heap.size
    · rw [Array.getElem?_modify]
      cases ho : w.heap[A.block]? with
      | none => simp
      | some o => cases o <;> simp
    · rw [Array.getElem?_eq_none (by simpa using hlt), Array.getElem?_eq_none (by omega)]
  · unfold World.frozen?; rw [putW_block hb]
theorem putW_cell {a : Addr} {u : Value} (hA : w.cell? A = some (.int k0 n0)) (h : w.cell? a = some u) : (putW w A k0 v).cell? a = some (if a = A then .int k0 v else u) := by
  have hsA := spot_none hA
  have hsa := spot_none h
  by_cases hb : a.block = A.block
  · unfold World.cell? at h hA ⊢
    cases ho : w.heap[A.block]? with
    | none => rw [ho] at hA; simp at hA
    | some o =>
      rw [ho] at hA
      rw [hb, ho] at h
      cases o with
      | cells c e fz =>
        have hm : (putW w A k0 v).heap[a.block]? = some (.cells (c.setIfInBounds A.off (.int k0 v)) e fz) := by
          simp [putW, World.setCell, Array.getElem?_modify, hb, ho, hsA]
        rw [hm]
        simp only [hsa, Option.isSome_none, Bool.false_eq_true, if_false] at h ⊢
        by_cases hoff : a.off = A.off
        · have : a = A := by cases a; cases A; simp_all
          subst this
          have hlt := (Array.getElem?_eq_some_iff.1 h).1
          simp [Array.getElem?_setIfInBounds, hlt]
        · have hne : a ≠ A := fun e => hoff (by rw [e])
          rw [if_neg hne, Array.getElem?_setIfInBounds_ne (fun e => hoff e.symm)]
          exact h
      | _ => simp at hA
  · have hne : a ≠ A := fun e => hb (by rw [e])
    rw [if_neg hne, World.cell?_of_block (w := w) (putW_block hb)]
    exact h
theorem putW_cellT {τ : Nat} {a : Addr} {u : Value} (hA : w.cell? A = some (.int k0 n0)) (h : cellT τ w a = some u) : cellT τ (putW w A k0 v) a = some (if a = A then .int k0 v else u) := by
  have h1 := putW_cell (v := v) hA (cellT_cell h)
  unfold cellT at h ⊢
  rw [putW_frozen]
  split at h
  · cases h
  · rename_i hn; rw [if_neg hn]; exact h1
theorem Rep.int_cell {c : PV} {k : IntKind} {n : Int} (h : Rep X γ w c (.int k n)) (hf : c.flat = true) : c = .int k n := by
  generalize hu : Value.int k n = u at h
  cases h with
  | int k' n' => injection hu with h1 h2; rw [h1, h2]
  | bool _ => cases hu
  | str _ => cases hu
  | sl => cases hu
  | fn => cases hu
  | _ => simp [PV.flat] at hf
theorem Rep.put {p : PV} {u : Value} (h : Rep X γ w p u) (hA : w.cell? A = some (.int k0 n0)) : ∃ q, Hav v false p q ∧ Rep X γ (putW w A k0 v) q u := by
  have hsz : (putW w A k0 v).heap.size = w.heap.size := putW_size
  induction h with
  | int k n => exact ⟨_, .refl _ _, .int k n⟩
  | bool b => exact ⟨_, .refl _ _, .bool b⟩
  | str s => exact ⟨_, .refl _ _, .str s⟩
  | agg cs vs hl hc h ih =>
    obtain ⟨l', h1, h2⟩ := pick_list (G := fun j c c' => ∀ u, vs[j]? = some u → Hav v false c c' ∧ Rep X γ (putW w A k0 v) c' u) cs fun j c hj => by
      have hlt : j < vs.length := by rw [hl]; exact (List.getElem?_eq_some_iff.1 hj).1
      obtain ⟨c', k1, k2⟩ := ih j c vs[j] hj (List.getElem?_eq_getElem hlt)
      refine ⟨c', fun u hu => ?_⟩
      rw [List.getElem?_eq_getElem hlt] at hu; injection hu with hu; subst hu
      exact ⟨k1, k2⟩
    refine ⟨.agg l', .agg _ _ _ h1 fun k c c' hc' hcc => ?_, .agg _ _ (by rw [h1]; exact hl) hc fun k c' u hk hu => ?_⟩
    · have hlt : k < vs.length := by rw [hl]; exact (List.getElem?_eq_some_iff.1 hc').1
      exact (h2 k c c' hc' hcc vs[k] (List.getElem?_eq_getElem hlt)).1
    · obtain ⟨c, hcc⟩ := get_both h1 hk
      exact (h2 k c c' hcc hk u hu).2
  | tup cs vs hl h ih =>
    obtain ⟨l', h1, h2⟩ := pick_list (G := fun j c c' => ∀ u, vs[j]? = some u → Hav v false c c' ∧ Rep X γ (putW w A k0 v) c' u) cs fun j c hj => by
      have hlt : j < vs.length := by rw [hl]; exact (List.getElem?_eq_some_iff.1 hj).1
      obtain ⟨c', k1, k2⟩ := ih j c vs[j] hj (List.getElem?_eq_getElem hlt)
      refine ⟨c', fun u hu => ?_⟩
      rw [List.getElem?_eq_getElem hlt] at hu; injection hu with hu; subst hu
      exact ⟨k1, k2⟩
    refine ⟨.tup l', .tup _ _ _ h1 fun k c c' hc' hcc => ?_, .tup _ _ (by rw [h1]; exact hl) fun k c' u hk hu => ?_⟩
    · have hlt : k < vs.length := by rw [hl]; exact (List.getElem?_eq_some_iff.1 hc').1
      exact (h2 k c c' hc' hcc vs[k] (List.getElem?_eq_getElem hlt)).1
    · obtain ⟨c, hcc⟩ := get_both h1 hk
      exact (h2 k c c' hcc hk u hu).2
  | sl τ z n f ad cap vs hcap hz hf hb h ih =>
    rcases Nat.eq_zero_or_pos n with hn | hn
    · subst hn
      exact ⟨_, .refl _ _, .sl τ z 0 f ad cap vs hcap (fun i hi => by omega) (fun i hi => by omega) (fun hi => by omega) (fun i j c hi => by omega)⟩
    · obtain ⟨a, rfl, hm, hlt, hc⟩ := hb hn
      obtain ⟨f', hf'⟩ := pick_rows (n := n) (f := f) (G := fun i j c c' => Hav v true (c.mark τ) (c'.mark τ) ∧ c'.flat = true ∧ Rep X γ (putW w A k0 v) (c'.mark τ) (if a.add (i * z + j) = A then .int k0 v else vs (i * z + j))) fun i hi j c hj => by
        have hfl := hf i hi c (List.mem_of_getElem? hj)
        have hjz : j < z := by rw [← hz i hi]; exact (List.getElem?_eq_some_iff.1 hj).1
        have hck := hc (i * z + j) (by
          calc i * z + j < i * z + z := by omega
            _ = (i + 1) * z := by rw [Nat.add_mul]; omega
            _ ≤ n * z := Nat.mul_le_mul_right z hi)
        by_cases ha : a.add (i * z + j) = A
        · rw [ha] at hck
          have := cellT_cell hck
          rw [hA] at this; injection this with this
          have hrc := h i j c hi hj
          rw [← this] at hrc
          have hce := hrc.int_cell (flat_mark hfl τ)
          refine ⟨.int k0 v, ?_, rfl, ?_⟩
          · rw [hce]; exact .int _ _
          · rw [if_pos ha]; exact .int _ _
        · obtain ⟨q, h1, h2⟩ := ih i j c hi hj
          refine ⟨q, ?_, h1.flat_ (flat_mark hfl τ), ?_⟩
          · rw [h1.mark_]; exact h1.up
          · rw [if_neg ha, h1.mark_]; exact h2
      refine ⟨.sl τ z n f', .sl _ _ _ _ _ _ (fun i hi => (hf' i hi).1) (fun i j c c' hi h1 h2 => ((hf' i hi).2 j c c' h1 h2).1), .sl τ z n f' (some a) cap (fun k => if a.add k = A then .int k0 v else vs k) hcap (fun i hi => by rw [(hf' i hi).1]; exact hz i hi) (fun i hi c' hc' => ?_) (fun _ => ⟨a, rfl, hm, by rw [hsz]; exact hlt, fun k hk => putW_cellT hA (hc k hk)⟩) (fun i j c' hi hc' => ?_)⟩
      · obtain ⟨j, hj⟩ := List.getElem?_of_mem hc'
        obtain ⟨c, hcc⟩ := get_both (hf' i hi).1 hj
        exact ((hf' i hi).2 j c c' hcc hj).2.1
      · obtain ⟨c, hcc⟩ := get_both (hf' i hi).1 hc'
        exact ((hf' i hi).2 j c c' hcc hc').2.2
  | nil z => exact ⟨_, .refl _ _, .nil z⟩
  | os r ge hg h1 h2 => exact ⟨_, .refl _ _, .os r ge hg h1 h2⟩
  | vw h r lo n ge ad m cap hg hh hle h0 h2 => exact ⟨_, .refl _ _, .vw h r lo n ge ad m cap hg hh hle h0 h2⟩
  | pt r i j ge b hg hb => exact ⟨_, .refl _ _, .pt r i j ge b hg hb⟩
  | rf r ge b hg hb => exact ⟨_, .refl _ _, .rf r ge b hg hb⟩
  | rfs z n r ge b hg hb => exact ⟨_, .refl _ _, .rfs z n r ge b hg hb⟩
  | rp τ cs a vs hf hb hc h ih =>
    obtain ⟨l', h1, h2⟩ := pick_list (G := fun j c c' => Hav v true (c.mark τ) (c'.mark τ) ∧ c'.flat = true ∧ Rep X γ (putW w A k0 v) (c'.mark τ) (if a.add j = A then .int k0 v else vs j)) cs fun j c hj => by
      have hfl := hf c (List.mem_of_getElem? hj)
      have hck := hc j (List.getElem?_eq_some_iff.1 hj).1
      by_cases ha : a.add j = A
      · rw [ha] at hck
        have := cellT_cell hck
        rw [hA] at this; injection this with this
        have hrc := h j c hj
        rw [← this] at hrc
        have hce := hrc.int_cell (flat_mark hfl τ)
        refine ⟨.int k0 v, ?_, rfl, ?_⟩
        · rw [hce]; exact .int _ _
        · rw [if_pos ha]; exact .int _ _
      · obtain ⟨q, h1, h2⟩ := ih j c hj
        refine ⟨q, ?_, h1.flat_ (flat_mark hfl τ), ?_⟩
        · rw [h1.mark_]; exact h1.up
        · rw [if_neg ha, h1.mark_]; exact h2
    refine ⟨.rp τ l', .rp _ _ _ _ h1 (fun j c c' k1 k2 => (h2 j c c' k1 k2).1), .rp τ l' a (fun k => if a.add k = A then .int k0 v else vs k) (fun c' hc' => ?_) (fun hne => ?_) (fun k hk => putW_cellT hA (hc k (by omega))) (fun j c' hc' => ?_)⟩
    · obtain ⟨j, hj⟩ := List.getElem?_of_mem hc'
      obtain ⟨c, hcc⟩ := get_both h1 hj
      exact (h2 j c c' hcc hj).2.1
    · obtain ⟨k1, k2⟩ := hb (fun e => hne (by subst e; exact List.eq_nil_of_length_eq_zero h1))
      exact ⟨k1, by rw [hsz]; exact k2⟩
    · obtain ⟨c, hcc⟩ := get_both h1 hc'
      exact (h2 j c c' hcc hc').2.2
  | fn f first caps vs us hl hl' h h' ih ih' =>
    obtain ⟨l1, g1, g2⟩ := pick_list (G := fun j c c' => ∀ u, vs[j]? = some u → Hav v false c c' ∧ Rep X γ (putW w A k0 v) c' u) first fun j c hj => by
      have hlt : j < vs.length := by rw [hl]; exact (List.getElem?_eq_some_iff.1 hj).1
      obtain ⟨c', k1, k2⟩ := ih j c vs[j] hj (List.getElem?_eq_getElem hlt)
      refine ⟨c', fun u hu => ?_⟩
      rw [List.getElem?_eq_getElem hlt] at hu; injection hu with hu; subst hu
      exact ⟨k1, k2⟩
    obtain ⟨l2, g3, g4⟩ := pick_list (G := fun j c c' => ∀ u, us[j]? = some u → Hav v false c c' ∧ Rep X γ (putW w A k0 v) c' u) caps fun j c hj => by
      have hlt : j < us.length := by rw [hl']; exact (List.getElem?_eq_some_iff.1 hj).1
      obtain ⟨c', k1, k2⟩ := ih' j c us[j] hj (List.getElem?_eq_getElem hlt)
      refine ⟨c', fun u hu => ?_⟩
      rw [List.getElem?_eq_getElem hlt] at hu; injection hu with hu; subst hu
      exact ⟨k1, k2⟩
    refine ⟨.fn f l1 l2, .fn _ _ _ _ _ _ g1 g3 (fun k c c' hc' hcc => ?_) (fun k c c' hc' hcc => ?_), .fn f l1 l2 vs us (by rw [g1]; exact hl) (by rw [g3]; exact hl') (fun k c' u hk hu => ?_) (fun k c' u hk hu => ?_)⟩
    · have hlt : k < vs.length := by rw [hl]; exact (List.getElem?_eq_some_iff.1 hc').1
      exact (g2 k c c' hc' hcc vs[k] (List.getElem?_eq_getElem hlt)).1
    · have hlt : k < us.length := by rw [hl']; exact (List.getElem?_eq_some_iff.1 hc').1
      exact (g4 k c c' hc' hcc us[k] (List.getElem?_eq_getElem hlt)).1
    · obtain ⟨c, hcc⟩ := get_both g1 hk
      exact (g2 k c c' hcc hk u hu).2
    · obtain ⟨c, hcc⟩ := get_both g3 hk
      exact (g4 k c c' hcc hk u hu).2
  | raw u h1 => exact ⟨_, .refl _ _, .raw u h1⟩
  | cnd g p u h hu ih =>
    cases g with
    | true =>
      obtain ⟨q, h1, h2⟩ := ih rfl
      exact ⟨.cnd true q, .cnd _ _ _ _ h1, .cnd _ _ _ (fun _ => h2) (fun h => by cases h)⟩
    | false => exact ⟨.cnd false p, .refl _ _, .cnd _ _ _ (fun h => by cases h) hu⟩
  | junk u => exact ⟨_, .refl _ _, .junk u⟩
inductive HavE (v : Int) : SE → SE → Prop where
  | box (l l' : List PV) (hl : l'.length = l.length) (h : ∀ (k : Nat) (c c' : PV), l[k]? = some c → l'[k]? = some c' → Hav v false c c') : HavE v (.box l) (.box l')
  | row (τ e z n : Nat) (f f' : Nat → List PV) (hl : ∀ i, i < n → (f' i).length = (f i).length)
      (h : ∀ (i j : Nat) (c c' : PV), i < n → (f i)[j]? = some c → (f' i)[j]? = some c' → Hav v false (c.mark τ) (c'.mark τ)) : HavE v (.row τ e z n f) (.row τ e z n f')
  | bld (T e : TypeId) (s : List UInt8) : HavE v (.bld T e s) (.bld T e s)
structure HavS (v : Int) (s s' : PS) : Prop where
  n : s'.n = s.n
  ok : s'.ok
  frN : ∀ t, s.fr t = none → s'.fr t = none
  fr : ∀ t p, s.fr t = some p → ∃ q, s'.fr t = some q ∧ Hav v false p q
  stN : ∀ r, s.st r = none → s'.st r = none
  st : ∀ r e, s.st r = some e → ∃ e', s'.st r = some e' ∧ HavE v e e'
theorem RepL.put {cs : List PV} {vs : List Value} (h : RepL X γ w cs vs) (hA : w.cell? A = some (.int k0 n0)) : ∃ l', l'.length = cs.length ∧ (∀ (k : Nat) (c c' : PV), cs[k]? = some c → l'[k]? = some c' → Hav v false c c') ∧ RepL X γ (putW w A k0 v) l' vs := by
  obtain ⟨l', h1, h2⟩ := pick_list (G := fun j c c' => ∀ u, vs[j]? = some u → Hav v false c c' ∧ Rep X γ (putW w A k0 v) c' u) cs fun j c hj => by
    have hlt : j < vs.length := by rw [h.1]; exact (List.getElem?_eq_some_iff.1 hj).1
    obtain ⟨c', k1, k2⟩ := (h.2 j c vs[j] hj (List.getElem?_eq_getElem hlt)).put (v := v) hA
    refine ⟨c', fun u hu => ?_⟩
    rw [List.getElem?_eq_getElem hlt] at hu; injection hu with hu; subst hu
    exact ⟨k1, k2⟩
  refine ⟨l', h1, fun k c c' hc' hcc => ?_, by rw [h1]; exact h.1, fun k c' u hk hu => ?_⟩
  · have hlt : k < vs.length := by rw [h.1]; exact (List.getElem?_eq_some_iff.1 hc').1
    exact (h2 k c c' hc' hcc vs[k] (List.getElem?_eq_getElem hlt)).1
  · obtain ⟨c, hcc⟩ := get_both h1 hk
    exact (h2 k c c' hcc hk u hu).2
theorem RepS.put {ge : GE} {e : SE} (h : RepS X γ w ge e) (hA : w.cell? A = some (.int k0 n0)) (hne : ∀ b, ge.has b → b ≠ A.block) : ∃ e', HavE v e e' ∧ RepS X γ (putW w A k0 v) ge e' := by
  cases e with
  | box l =>
    obtain ⟨b, h1, ⟨T, vs, h2, h3, h4⟩ | ⟨ks, vks, ka, va, hh, f, es, clock, h2, h3, h4⟩⟩ := h
    · obtain ⟨l', g1, g2, g3⟩ := h4.put (v := v) hA
      exact ⟨.box l', .box _ _ g1 g2, b, h1, .inl ⟨T, vs, by rw [putW_block (hne b (.inl h1.1))]; exact h2, h3, g3⟩⟩
    · subst h2
      exact ⟨_, .box _ _ rfl (fun k c c' k1 k2 => by rw [k1] at k2; injection k2 with k2; subst k2; exact .refl _ _), b, h1, .inr ⟨ks, vks, ka, va, hh, f, es, clock, rfl, by rw [putW_block (hne b (.inl h1.1))]; exact h3, h4⟩⟩
  | row τ e z n f =>
    obtain ⟨vs, h1, h2, h3, h4, h5, h6, h7, h8⟩ := h
    have hcell : ∀ i j, i < n → j < z → ∃ u, vs[i * z + j]? = some u := fun i j hi hj => by
      have hl := h4.1
      have : i * z + j < vs.length := by
        rw [hl]
        calc i * z + j < i * z + z := by omega
          _ = (i + 1) * z := by rw [Nat.add_mul]; omega
          _ ≤ n * z := Nat.mul_le_mul_right z hi
      exact ⟨_, List.getElem?_eq_getElem this⟩
    obtain ⟨f', hf'⟩ := pick_rows (n := n) (f := f) (G := fun i j c c' => Hav v false (c.mark τ) (c'.mark τ) ∧ c'.flat = true ∧ ∀ u, vs[i * z + j]? = some u → Rep X γ (putW w A k0 v) (c'.mark τ) u) fun i hi j c hj => by
      have hfl := h7 i hi c (List.mem_of_getElem? hj)
      have hjz : j < z := by rw [← h6 i hi]; exact (List.getElem?_eq_some_iff.1 hj).1
      obtain ⟨u, hu⟩ := hcell i j hi hjz
      obtain ⟨q, k1, k2⟩ := (h8 i j c u hi hj hu).put (v := v) hA
      refine ⟨q, ?_, k1.flat_ (flat_mark hfl τ), fun u' hu' => ?_⟩
      · rw [k1.mark_]; exact k1
      · rw [hu] at hu'; injection hu' with hu'; subst hu'
        rw [k1.mark_]; exact k2
    refine ⟨.row τ e z n f', .row _ _ _ _ _ _ (fun i hi => (hf' i hi).1) (fun i j c c' hi k1 k2 => ((hf' i hi).2 j c c' k1 k2).1), vs, h1, h2, h3, ⟨h4.1, ?_⟩, h5, fun i hi => by rw [(hf' i hi).1]; exact h6 i hi, fun i hi c' hc' => ?_, fun i j c' u hi hc' hu => ?_⟩
    · rcases h4.2 with hn | ⟨g, cap, cur, fz, k1, k2, k3⟩
      · exact .inl hn
      · refine .inr ⟨g, cap, cur, fz, k1, ?_, k3⟩
        rw [putW_block (hne g (.inr (by rw [k1]; rfl)))]; exact k2
    · obtain ⟨j, hj⟩ := List.getElem?_of_mem hc'
      obtain ⟨c, hcc⟩ := get_both (hf' i hi).1 hj
      exact ((hf' i hi).2 j c c' hcc hj).2.1
    · obtain ⟨c, hcc⟩ := get_both (hf' i hi).1 hc'
      exact ((hf' i hi).2 j c c' hcc hc').2.2 u hu
  | bld T e s =>
    obtain ⟨b, p, u, h1, h2, h3, h4, h5, h6⟩ := h
    refine ⟨_, .bld _ _ _, b, p, u, h1, h2, h3, by rw [putW_block (hne b (.inl h1))]; exact h4, ?_, h6⟩
    obtain ⟨h7, h8⟩ := h5
    refine ⟨h7, ?_⟩
    rcases h8 with hn | ⟨g, cap, cur, fz, k1, k2, k3, k4⟩
    · exact .inl hn
    · refine .inr ⟨g, cap, cur, fz, k1, k2, ?_, k4⟩
      rw [putW_block (hne g (.inr (by rw [h2, k1]; rfl)))]; exact k3
theorem Rel.put {w0 : World} {may : Nat → Prop} {a : Act} {s : PS} (h : Rel X w0 may a w s γ) (hA : w.cell? A = some (.int k0 n0)) (hm : mayLie X γ 0 A.block) : ∃ s', HavS v s s' ∧ Rel X w0 may a (putW w A k0 v) s' γ := by
  have hmy : X.my A.block := hm.2.elim id (fun h => h.elim (fun h => absurd h.1 (by omega)) (fun h => absurd h.1 (by omega)))
  have hne : ∀ b, γ.own b → b ≠ A.block := fun b hb e => hm.1 (by rw [← e]; exact hb)
  have hgl : ∀ b, X.as b → b ≠ A.block := fun b hb e => by
    subst e
    obtain ⟨h1, h2⟩ := h.asLt _ (.inl hb)
    rcases hmy with h3 | ⟨h3, r, ge, h4, h5⟩
    · omega
    · exact h2 (h.mayP r ge _ (.inr h3) h4 h5)
  have hfr : ∀ t, ∃ q : PV, ∀ p, s.fr t = some p → Hav v false p q ∧ Rep X γ (putW w A k0 v) q (a.tmps.getD t undef) := fun t => by
    cases ht : s.fr t with
    | none => exact ⟨.junk, fun p hp => by cases hp⟩
    | some p =>
      obtain ⟨q, k1, k2⟩ := (h.fr t p ht).2.put (v := v) hA
      exact ⟨q, fun p' hp => by injection hp with hp; subst hp; exact ⟨k1, k2⟩⟩
  have hst : ∀ r, ∃ e' : SE, ∀ e ge, s.st r = some e → γ r = some ge → HavE v e e' ∧ RepS X γ (putW w A k0 v) ge e' := fun r => by
    cases hr : s.st r with
    | none => exact ⟨.box [], fun e ge he => by cases he⟩
    | some e =>
      have hd := h.st.dom r
      rw [hr] at hd
      obtain ⟨ge, hge⟩ := Option.isSome_iff_exists.1 hd
      obtain ⟨e', k1, k2⟩ := (h.st.at_ r ge e hge hr).put (v := v) hA (fun b hb => hne b ⟨r, ge, hge, hb⟩)
      exact ⟨e', fun e2 ge2 he hg => by injection he with he; subst he; rw [hge] at hg; injection hg with hg; subst hg; exact ⟨k1, k2⟩⟩
  let F : Nat → PV := fun t => Classical.choose (hfr t)
  let E : Nat → SE := fun r => Classical.choose (hst r)
  have hF : ∀ t p, s.fr t = some p → Hav v false p (F t) ∧ Rep X γ (putW w A k0 v) (F t) (a.tmps.getD t undef) := fun t => Classical.choose_spec (hfr t)
  have hE : ∀ r e ge, s.st r = some e → γ r = some ge → HavE v e (E r) ∧ RepS X γ (putW w A k0 v) ge (E r) := fun r => Classical.choose_spec (hst r)
  have hge : ∀ r e, s.st r = some e → ∃ ge, γ r = some ge := fun r e he => by
    have hd := h.st.dom r
    rw [he] at hd
    exact Option.isSome_iff_exists.1 hd
  refine ⟨⟨s.n, fun t => (s.fr t).map fun _ => F t, fun r => (s.st r).map fun _ => E r, True, fun _ => none⟩, ⟨rfl, trivial, fun t ht => by simp [ht], fun t p hp => ⟨F t, by simp [hp], (hF t p hp).1⟩, fun r hr => by simp [hr], fun r e he => ?_⟩, ?_⟩
  · obtain ⟨ge, hg⟩ := hge r e he
    exact ⟨E r, by simp [he], (hE r e ge he hg).1⟩
  · refine ⟨h.size, h.defers, fun t p hp => ?_, ⟨fun r => ?_, fun r ge e' hg he => ?_, h.st.inj, h.st.asOff, fun b hb => by rw [putW_size]; exact h.st.lt b hb, fun b p hp => ?_⟩, ?_, h.lo, h.own, h.asLt, fun r hr => ?_, h.mayP⟩
    · simp only [Option.map_eq_some_iff] at hp
      obtain ⟨p0, hp0, rfl⟩ := hp
      exact ⟨(h.fr t p0 hp0).1, (hF t p0 hp0).2⟩
    · rw [h.st.dom r]; simp
    · simp only [Option.map_eq_some_iff] at he
      obtain ⟨e0, he0, rfl⟩ := he
      exact (hE r e0 ge he0 hg).2
    · obtain ⟨⟨o, k1, k2⟩, k3, k4⟩ := h.st.glob b p hp
      exact ⟨⟨o, by rw [putW_block (hgl b k4)]; exact k1, k2⟩, k3, k4⟩
    · refine ⟨h.keeps.os, h.keeps.tape, h.keeps.output, by rw [putW_size]; exact h.keeps.size, fun b hb hnm => (putW_block fun e => ?_).trans (h.keeps.block b hb hnm)⟩
      subst e
      rcases hmy with h3 | ⟨h3, r, ge, h4, h5⟩
      · rw [h.lo] at h3; omega
      · exact hnm (h.mayP r ge _ (.inr h3) h4 h5)
    · have hp := h.par r hr
      cases hs : s.st r with
      | none => rw [hs] at hp; exact hp.elim
      | some e =>
        rw [hs] at hp
        obtain ⟨ge, hg⟩ := hge r e hs
        have hh := (hE r e ge hs hg).1
        simp only [hs, Option.map_some]
        generalize E r = e' at hh
        cases hh with
        | box _ _ _ _ => exact hp
        | row _ _ _ _ _ _ _ _ => exact hp.elim
        | bld _ _ _ => exact hp
end
/-! ### the rule -/
section
variable {P : Program} {X : Cx} {w0 : World} {may : Nat → Prop} {ops : Array Oper} {Q : Exit → Act → World → Prop}
theorem reg_pre {wr lg : Bool} {cr : Nat → CallRes} {ks : List Nat} : ∀ {l : List (Nat × Ins)} {a : Act} {w : World} {s s' : PS} {γ : Gh}, (∀ p ∈ l, ∃ o, ops[p.1]? = some o ∧ compO P wr ops o = some p.2) →
    Rel X w0 may a w s γ → evL (PureCall P) lg cr l s = some s' → s'.ok → (∀ a' w' γ', Rel X w0 may a' w' s' γ' → wpOps P ops Q ks a' w') → wpOps P ops Q (l.map (·.1) ++ ks) a w
  | [], a, w, s, s', γ, hl, hR, h, hok, hK => by
    simp only [evL, Option.some.injEq] at h; subst h
    simpa using hK _ _ _ hR
  | (i, x) :: r, a, w, s, s', γ, hl, hR, h, hok, hK => by
    simp only [evL] at h
    split at h
    · rename_i s1 h1
      obtain ⟨o, ho, hx⟩ := hl (i, x) (by simp)
      rw [List.map_cons, List.cons_append, wpOps_cons]
      exact stepX_sound ho hR hx h1 (evL_ok h hok) fun a' w' γ' hR' => reg_pre (fun p hp => hl p (by simp [hp])) hR' h hok hK
    · cases h
theorem run_storeAt_one {t : TypeId} {A : Addr} {w : World} {u v : Value} (hz : P.cellsOf t = 1) (hA : w.cell? A = some u) (hf : w.frozen? A = false) (h1 : v.oneCell' = true) :
    (Instr.storeAt t (.pointer (some A)) v).run P w = .ok () (w.setCell A v) := by
  obtain ⟨i, hi, hs⟩ := info_of_size (P := P) (t := t) (by omega)
  have hcs : v.cells = #[v] := cells_one h1
  have hadd : A.add 0 = A := by unfold Addr.add; simp
  have hst : (store (A.add 0) v).run P w = .ok () (w.setCell A v) := by
    rw [hadd, run_store P w _ v _ h1, hA]
    simp [hf]
  have hsz : (#[v] : Array Value).size = P.cellsOf t := by rw [hz]; rfl
  simp only [Instr.storeAt, Instr.sureAddr, pure_bind, storeVar, Sem.run_bind, run_sizeOf w hi, Result.andThen_ok, hsz, ne_eq, not_true_eq_false, if_false, hcs, storeCells, hst, Sem.run_pure]
theorem st_wp {wr : Bool} {o : Oper} {x y : A} {k : IntKind} {n v : Int} {a : Act} {w : World} {s : PS} {γ : Gh} {K : Act → World → Prop} (hR : Rel X w0 may a w s γ) (hc : compI P wr o = some (.st 1 x y))
    (hx : A.val s.fr x = some (.rp 0 [.int k n])) (hy : A.val s.fr y = some (.int k v)) (hK : ∀ s' γ', HavS v s s' → ∀ w', Rel X w0 may a w' s' γ' → K (a.put o.dst undef) w') : o.wp P a w K Q := by
  have H := eval_opd hR
  have hop : ∃ t x' y', o.op = .store t x' y' ∧ arg x' = some x ∧ argT P t y' = some y ∧ P.cellsOf t = 1 := by
    revert hc
    unfold compI
    intro hc
    repeat' (split at hc)
    all_goals first
      | (cases hc; done)
      | (injection hc with hc; injection hc; done)
      | (obtain ⟨y, hy, hh⟩ := Option.map_eq_some_iff.1 hc; cases hh; done)
      | (injection hc with hc; injection hc with e1 e2 e3
         rename_i _ t x' y' hop _ _ y z hy hz hpos
         exact ⟨_, _, _, hop, by rw [← e2]; exact hy, by rw [← e3]; exact hz, e1⟩)
  obtain ⟨t, x', y', hop, hax, hay, hz⟩ := hop
  have r1 := arg_rep H hax hx
  have r2 := argT_rep (P := P) H hay hy
  have hv := r2.int_inv
  obtain ⟨A, hAe⟩ := rp_inv r1
  rw [hAe] at r1
  cases r1 with
  | rp _ _ _ vs hf hb hcl h =>
    obtain ⟨hm, hlt⟩ := hb (by simp)
    have h0 := hcl 0 (by simp)
    have hadd : A.add 0 = A := by unfold Addr.add; simp
    rw [hadd] at h0
    have hval := h 0 _ rfl
    have hv0 : vs 0 = .int k n := by
      have h6 : Rep X γ w (.int k n) (vs 0) := hval
      exact h6.int_inv
    rw [hv0] at h0
    have hcell := cellT_cell h0
    obtain ⟨s', h1, h2⟩ := hR.put (v := v) hcell hm
    unfold Oper.wp
    have hrun : (execOp a.eval o).run P w = .ok .skip (putW w A k v) := by
      unfold execOp
      rw [hop]
      simp only [Sem.run_bind, hAe, hv, run_storeAt_one (v := .int k v) hz hcell (cellT_zero h0) rfl, Result.andThen_ok, Sem.run_pure]
    rw [hrun, Oper.upon_skip]
    exact hK s' γ h1 _ h2
end
section
variable {P : Program} {wr : Bool} {np : Nat} {Q : Lv → PS → Prop}
theorem Rel.putNone {X : Cx} {w0 w : World} {may : Nat → Prop} {a : Act} {s : PS} {γ : Gh} (h : Rel X w0 may a w s γ) : Rel X w0 may (a.put none undef) w s γ := h
theorem LSem.hav {ins pre post : List Ins} {id : Nat} {x y : A} {s : PS} (hins : ins = pre ++ ⟨none, id, none, .st 1 x y⟩ :: post)
    (h : evK (PureCall P) false 0 pre s (fun s1 => s1.ok ∧ ∃ k n v, A.val s1.fr x = some (.rp 0 [.int k n]) ∧ A.val s1.fr y = some (.int k v) ∧
      ∀ s2, HavS v s1 s2 → evK (PureCall P) false (pre.length + 1) post s2 (fun s' => Q .nrm s'))) : LSem P wr np (.reg ins) Q s := by
  subst hins
  intro hQ code hc X w0 may a w γ hX hR
  have hcode : ∃ id' ops, code = .region id' ops false ∧ mapO (compO P wr ops) ops.toList = some (pre ++ ⟨none, id, none, .st 1 x y⟩ :: post) := by
    cases code with
    | region id ops dr =>
      cases dr with
      | false =>
        simp only [comp, C.er] at hc
        split at hc
        · rename_i hm
          simp only [Option.some.injEq, C.reg.injEq] at hc
          subst hc
          exact ⟨id, ops, rfl, hm⟩
        · cases hc
      | true => simp only [comp, C.er] at hc; (repeat' (split at hc)) <;> cases hc
    | _ => simp only [comp, C.er] at hc <;> (repeat' (split at hc)) <;> simp_all
  obtain ⟨id', ops, rfl, hm⟩ := hcode
  obtain ⟨cr, s1, hev, hok1, k, n, v, hx, hy, hK⟩ := evK_evL h
  refine wp_region ?_
  have hlen : ops.size = pre.length + (1 + post.length) := by have := mapO_length hm; simp at this; omega
  have hget : ∀ j o, ops[j]? = some o → ∃ z, (pre ++ ⟨none, id, none, .st 1 x y⟩ :: post : List Ins)[j]? = some z ∧ compO P wr ops o = some z := fun j o hk => comp_ins hm j o hk
  have hrange : List.range ops.size = (num 0 pre).map (·.1) ++ (pre.length :: (num (pre.length + 1) post).map (·.1)) := by
    rw [num_fst, num_fst, hlen, List.range_eq_range']
    rw [← List.range'_append_1, Nat.zero_add, Nat.add_comm 1, List.range'_succ]
  rw [hrange]
  refine reg_pre (wr := wr) (fun p hp => ?_) hR hev hok1 fun a1 w1 γ1 hR1 => ?_
  · obtain ⟨_, hg⟩ := num_get pre 0 p hp
    have hlt := (List.getElem?_eq_some_iff.1 hg).1
    have ho : ops[p.1]? = some (ops[p.1]'(by omega)) := Array.getElem?_eq_getElem (by omega)
    obtain ⟨z, hz, hco⟩ := hget _ _ ho
    rw [List.getElem?_append_left (by omega)] at hz
    rw [show p.1 - 0 = p.1 from rfl, hz] at hg
    injection hg with hg; subst hg
    exact ⟨_, ho, hco⟩
  · rw [wpOps_cons]
    have ho : ops[pre.length]? = some (ops[pre.length]'(by omega)) := Array.getElem?_eq_getElem (by omega)
    obtain ⟨z, hz, hco⟩ := hget _ _ ho
    rw [List.getElem?_append_right (Nat.le_refl _), Nat.sub_self, List.getElem?_cons_zero] at hz
    injection hz with hz; subst hz
    obtain ⟨hg1, hi1, hd1⟩ := compO_parts hco
    unfold wpOp
    rw [ho]
    simp only
    rw [guard_none hg1 rfl, if_pos rfl]
    refine .inl (st_wp hR1 hi1 hx hy fun s2 γ2 hH w2 hR2 => ?_)
    have hdst : (ops[pre.length]'(by omega)).dst = none := hd1.symm
    rw [hdst]
    obtain ⟨cr2, s3, hev2, hQ3⟩ := evK_evL (hK s2 hH)
    exact reg_sound (l := num (pre.length + 1) post) (fun p hp => by
      obtain ⟨hg0, hg⟩ := num_get post (pre.length + 1) p hp
      have hlt := (List.getElem?_eq_some_iff.1 hg).1
      have ho : ops[p.1]? = some (ops[p.1]'(by omega)) := Array.getElem?_eq_getElem (by omega)
      obtain ⟨z, hz, hco⟩ := hget _ _ ho
      rw [List.getElem?_append_right (by omega), show p.1 - pre.length = (p.1 - (pre.length + 1)) + 1 by omega, List.getElem?_cons_succ] at hz
      rw [hz] at hg
      injection hg with hg; subst hg
      exact ⟨_, ho, hco⟩) (hR2.putNone) hev2 (hQ _ _ hQ3) (fun a' w' γ' hR' => ⟨_, _, _, rfl, hQ3, hR'⟩)
end
end Pv
end Go.Proofs.YtcfcmafmdpbjoaaDoor
