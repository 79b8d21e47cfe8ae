/- LAW 24: what texts mean (FloodtableTexts). -/
import Derived.Test.YtcfcmafmdpbjoaaDoorZdi
import Derived.Test.YtcfcmafmdpbjoaaDoorZdh
/- LAW 24, THE WALKS: the second form: texts. -/
set_option linter.unusedSimpArgs false
set_option linter.unusedVariables false
namespace Go.Proofs.YtcfcmafmdpbjoaaDoor
namespace Pv
def c51L1 : C := (.seq (.seq (.reg [⟨(some 24), 384, none, .mv (.t 5)⟩,
    ⟨(some 25), 400, none, .mv (.t 0)⟩,
    ⟨(some 26), 416, none, .lens (.t 25)⟩,
    ⟨(some 27), 432, none, .bi false .lss (.t 24) (.t 26)⟩])
  (.cond (.t 27) .skip (.exit 0)))
  (.seq (.block 1 (.seq (.seq (.reg [⟨(some 30), 480, none, .mv (.t 0)⟩,
    ⟨(some 31), 496, none, .mv (.t 5)⟩,
    ⟨(some 32), 512, none, .ixs (.t 30) (.t 31)⟩,
    ⟨(some 33), 528, none, .bi false .lss (.t 32) (.c (.int .u8 48))⟩,
    ⟨(some 34), 544, none, .mv (.t 33)⟩,
    ⟨(some 35), 560, (some (34, false)), .mv (.t 0)⟩,
    ⟨(some 36), 576, (some (34, false)), .mv (.t 5)⟩,
    ⟨(some 37), 592, (some (34, false)), .ixs (.t 35) (.t 36)⟩,
    ⟨(some 38), 608, (some (34, false)), .bi false .gtr (.t 37) (.c (.int .u8 57))⟩,
    ⟨(some 39), 624, none, .pick (.t 34) (.c (.bool true)) (.t 38)⟩])
  (.cond (.t 39) (.seq (.reg [⟨(some 2), 32, none, .mv (.c (.int .i64 0))⟩,
    ⟨(some 3), 48, none, .mv (.c (.bool false))⟩])
  .ret) .skip))
  (.reg [⟨(some 40), 640, none, .mv (.t 4)⟩,
    ⟨(some 41), 656, none, .bi false .mul (.c (.int .i64 10)) (.t 40)⟩,
    ⟨(some 42), 672, none, .mv (.t 0)⟩,
    ⟨(some 43), 688, none, .mv (.t 5)⟩,
    ⟨(some 44), 704, none, .ixs (.t 42) (.t 43)⟩,
    ⟨(some 45), 720, none, .bi false .sub (.t 44) (.c (.int .u8 48))⟩,
    ⟨(some 46), 736, none, .cv false .i64 (.t 45)⟩,
    ⟨(some 47), 752, none, .bi false .add (.t 41) (.t 46)⟩,
    ⟨(some 4), 64, none, .mv (.t 47)⟩])))
  (.reg [⟨(some 28), 448, none, .mv (.t 5)⟩,
    ⟨(some 29), 464, none, .bi false .add (.t 28) (.c (.int .i64 1))⟩,
    ⟨(some 5), 80, none, .mv (.t 29)⟩])))
def c51 : C := (.seq (.reg [⟨(some 2), 32, none, .mv (.c (.int .i64 0))⟩,
    ⟨(some 3), 48, none, .mv (.c (.bool false))⟩])
  (.seq (.seq (.reg [⟨(some 6), 96, none, .mv (.t 0)⟩,
    ⟨(some 7), 112, none, .lens (.t 6)⟩,
    ⟨(some 8), 128, none, .bi false .lss (.t 7) (.c (.int .i64 1))⟩,
    ⟨(some 9), 144, none, .mv (.t 8)⟩,
    ⟨(some 10), 160, (some (9, false)), .mv (.t 0)⟩,
    ⟨(some 11), 176, (some (9, false)), .lens (.t 10)⟩,
    ⟨(some 12), 192, (some (9, false)), .bi false .gtr (.t 11) (.c (.int .i64 13))⟩,
    ⟨(some 13), 208, none, .pick (.t 9) (.c (.bool true)) (.t 12)⟩,
    ⟨(some 14), 224, none, .mv (.t 13)⟩,
    ⟨(some 15), 240, (some (14, false)), .mv (.t 0)⟩,
    ⟨(some 16), 256, (some (14, false)), .lens (.t 15)⟩,
    ⟨(some 17), 272, (some (14, false)), .bi false .gtr (.t 16) (.c (.int .i64 1))⟩,
    ⟨(some 18), 288, (some (14, false)), .mv (.t 17)⟩,
    ⟨(some 19), 304, (some (18, true)), .mv (.t 0)⟩,
    ⟨(some 20), 320, (some (18, true)), .ixs (.t 19) (.c (.int .i64 0))⟩,
    ⟨(some 21), 336, (some (18, true)), .bi false .eql (.t 20) (.c (.int .u8 48))⟩,
    ⟨(some 22), 352, (some (14, false)), .pick (.t 18) (.t 21) (.c (.bool false))⟩,
    ⟨(some 23), 368, none, .pick (.t 14) (.c (.bool true)) (.t 22)⟩])
  (.cond (.t 23) (.seq (.reg [⟨(some 2), 32, none, .mv (.c (.int .i64 0))⟩,
    ⟨(some 3), 48, none, .mv (.c (.bool false))⟩])
  .ret) .skip))
  (.seq (.reg [⟨(some 4), 64, none, .mv (.c (.int .i64 0))⟩])
  (.seq (.seq (.reg [⟨(some 5), 80, none, .mv (.c (.int .i64 0))⟩])
  (.block 0 (.loop c51L1)))
  (.seq (.reg [⟨(some 48), 768, none, .mv (.t 4)⟩,
    ⟨(some 2), 32, none, .mv (.t 48)⟩,
    ⟨(some 3), 48, none, .mv (.c (.bool true))⟩])
  .ret)))))
theorem fits51 : fits Tryd.prog false Tryd.f51 1 49 [(2, none), (3, none)] = some c51.er := by kernel_rfl
def c33L1 : C := (.seq (.reg [⟨(some 23), 368, none, .bi false .lss (.t 22) (.t 21)⟩])
  (.seq (.cond (.t 23) .skip (.exit 0))
  (.seq (.block 1 (.seq (.reg [⟨(some 24), 384, none, .ia 1 (.t 20) (.t 22)⟩,
    ⟨(some 25), 400, none, .ld 1 false (.t 24)⟩,
    ⟨(some 9), 144, none, .mv (.t 25)⟩])
  (.seq (.reg [⟨(some 27), 432, none, .mv (.t 9)⟩,
    ⟨(some 28), 448, none, .call (.c (.fn (.func 51) [] [])) [(.t 27)]⟩,
    ⟨(some 26), 416, none, .mv (.t 28)⟩,
    ⟨(some 29), 464, none, .ex (.t 26) 0⟩,
    ⟨(some 30), 480, none, .ex (.t 26) 1⟩,
    ⟨(some 10), 160, none, .mv (.t 29)⟩,
    ⟨(some 11), 176, none, .mv (.t 30)⟩])
  (.seq (.seq (.reg [⟨(some 31), 496, none, .mv (.t 11)⟩,
    ⟨(some 32), 512, none, .un false .not (.t 31)⟩])
  (.cond (.t 32) (.seq (.reg [⟨(some 4), 64, none, .mv (.c (.nil 1))⟩,
    ⟨(some 5), 80, none, .mv (.c (.bool false))⟩])
  .ret) .skip))
  (.reg [⟨(some 33), 528, none, .mv (.t 6)⟩,
    ⟨(some 34), 544, none, .mv (.t 10)⟩,
    ⟨(some 35), 560, none, .bs 3 1 [(.t 34)]⟩,
    ⟨(some 36), 576, none, .app 3 1 8 (.t 33) (.t 35)⟩,
    ⟨(some 6), 96, none, .mv (.t 36)⟩])))))
  (.reg [⟨(some 37), 592, none, .bi false .add (.t 22) (.c (.int .i64 1))⟩,
    ⟨(some 22), 352, none, .mv (.t 37)⟩]))))
def c33 : C := (.seq (.reg [⟨(some 4), 64, none, .mv (.c (.nil 1))⟩,
    ⟨(some 5), 80, none, .mv (.c (.bool false))⟩])
  (.seq (.reg [⟨(some 6), 96, none, .mv (.c (.nil 1))⟩])
  (.seq (.reg [⟨(some 12), 192, none, .mv (.t 0)⟩,
    ⟨(some 13), 208, none, .call (.c (.fn (.func 32) [] [])) [(.t 12), (.c (.str [32]))]⟩,
    ⟨(some 7), 112, none, .mv (.t 13)⟩])
  (.seq (.seq (.reg [⟨(some 14), 224, none, .mv (.t 7)⟩,
    ⟨(some 15), 240, none, .ia 1 (.t 14) (.c (.int .i64 0))⟩,
    ⟨(some 16), 256, none, .ld 1 false (.t 15)⟩,
    ⟨(some 17), 272, none, .mv (.t 1)⟩,
    ⟨(some 18), 288, none, .bi false .neq (.t 16) (.t 17)⟩])
  (.cond (.t 18) (.seq (.reg [⟨(some 4), 64, none, .mv (.c (.nil 1))⟩,
    ⟨(some 5), 80, none, .mv (.c (.bool false))⟩])
  .ret) .skip))
  (.seq (.seq (.reg [⟨(some 19), 304, none, .mv (.t 7)⟩,
    ⟨(some 20), 320, none, .slc 1 (.t 19) (some (.c (.int .i64 1))) none⟩,
    ⟨(some 21), 336, none, .len (.t 20)⟩,
    ⟨(some 22), 352, none, .mv (.c (.int .i64 0))⟩])
  (.block 0 (.loop c33L1)))
  (.seq (.reg [⟨(some 38), 608, none, .mv (.t 6)⟩,
    ⟨(some 4), 64, none, .mv (.t 38)⟩,
    ⟨(some 5), 80, none, .mv (.c (.bool true))⟩])
  .ret))))))
theorem fits33 : fits Tryd.prog false Tryd.f33 2 39 [(4, none), (5, none)] = some c33.er := by kernel_rfl
def c28L1 : C := (.seq (.reg [⟨(some 10), 160, none, .bi false .lss (.t 9) (.t 8)⟩])
  (.seq (.cond (.t 10) .skip (.exit 0))
  (.seq (.block 1 (.seq (.reg [⟨(some 11), 176, none, .ia 1 (.t 7) (.t 9)⟩,
    ⟨(some 12), 192, none, .ld 1 false (.t 11)⟩,
    ⟨(some 6), 96, none, .mv (.t 12)⟩])
  (.reg [⟨(some 13), 208, none, .mv (.t 0)⟩,
    ⟨(some 14), 224, none, .mv (.t 6)⟩,
    ⟨(some 15), 240, none, .call (.c (.fn (.func 47) [] [])) [(.t 14)]⟩,
    ⟨(some 16), 256, none, .bi false .add (.c (.str [32])) (.t 15)⟩,
    ⟨(some 17), 272, none, .bi false .add (.t 13) (.t 16)⟩,
    ⟨(some 0), 0, none, .mv (.t 17)⟩])))
  (.reg [⟨(some 18), 288, none, .bi false .add (.t 9) (.c (.int .i64 1))⟩,
    ⟨(some 9), 144, none, .mv (.t 18)⟩]))))
def c28 : C := (.seq (.reg [⟨(some 4), 64, none, .mv (.c (.str []))⟩])
  (.seq (.seq (.reg [⟨(some 7), 112, none, .mv (.t 1)⟩,
    ⟨(some 8), 128, none, .len (.t 7)⟩,
    ⟨(some 9), 144, none, .mv (.c (.int .i64 0))⟩])
  (.block 0 (.loop c28L1)))
  (.seq (.reg [⟨(some 19), 304, none, .mv (.t 0)⟩,
    ⟨(some 20), 320, none, .bi false .add (.t 19) (.c (.str [10]))⟩,
    ⟨(some 4), 64, none, .mv (.t 20)⟩])
  .ret)))
theorem fits28 : fits Tryd.prog false Tryd.f28 2 21 [(4, none)] = some c28.er := by kernel_rfl
def c13L1 : C := (.seq (.reg [⟨(some 20), 320, none, .bi false .lss (.t 19) (.t 18)⟩])
  (.seq (.cond (.t 20) .skip (.exit 0))
  (.seq (.block 1 (.seq (.reg [⟨(some 21), 336, none, .mv (.t 19)⟩,
    ⟨(some 22), 352, none, .ia 1 (.t 17) (.t 19)⟩,
    ⟨(some 23), 368, none, .ld 1 false (.t 22)⟩,
    ⟨(some 6), 96, none, .mv (.t 21)⟩,
    ⟨(some 7), 112, none, .mv (.t 23)⟩])
  (.reg [⟨(some 24), 384, none, .mv (.t 5)⟩,
    ⟨(some 25), 400, none, .mv (.t 7)⟩,
    ⟨(some 26), 416, none, .bs 3 1 [(.t 25)]⟩,
    ⟨(some 27), 432, none, .fa 2 (.t 1)⟩,
    ⟨(some 28), 448, none, .ld 1 false (.t 27)⟩,
    ⟨(some 29), 464, none, .mv (.t 6)⟩,
    ⟨(some 30), 480, none, .ia 1 (.t 28) (.t 29)⟩,
    ⟨(some 31), 496, none, .ld 1 false (.t 30)⟩,
    ⟨(some 32), 512, none, .app 3 1 8 (.t 26) (.t 31)⟩,
    ⟨(some 33), 528, none, .call (.c (.fn (.func 28) [] [])) [(.c (.str [108, 101, 118, 101, 108])), (.t 32)]⟩,
    ⟨(some 34), 544, none, .bi false .add (.t 24) (.t 33)⟩,
    ⟨(some 5), 80, none, .mv (.t 34)⟩])))
  (.reg [⟨(some 35), 560, none, .bi false .add (.t 19) (.c (.int .i64 1))⟩,
    ⟨(some 19), 304, none, .mv (.t 35)⟩]))))
def c13 : C := (.seq (.reg [⟨(some 1), 16, none, .bx 3 (.t 0)⟩,
    ⟨(some 2), 32, none, .mv (.c (.str []))⟩,
    ⟨(some 3), 48, none, .mv (.c (.int .i64 0))⟩])
  (.seq (.seq (.reg [⟨(some 8), 128, none, .ld 3 true (.t 1)⟩,
    ⟨(some 9), 144, none, .call (.c (.fn (.func 23) [] [])) [(.t 8)]⟩,
    ⟨(some 4), 64, none, .mv (.t 9)⟩])
  (.seq (.reg [⟨(some 10), 160, none, .mv (.t 4)⟩,
    ⟨(some 11), 176, none, .bi false .neq (.t 10) (.c (.int .i64 0))⟩])
  (.cond (.t 11) (.seq (.reg [⟨(some 12), 192, none, .mv (.t 4)⟩,
    ⟨(some 2), 32, none, .mv (.c (.str []))⟩,
    ⟨(some 3), 48, none, .mv (.t 12)⟩])
  .ret) .skip)))
  (.seq (.reg [⟨(some 13), 208, none, .fa 1 (.t 1)⟩,
    ⟨(some 14), 224, none, .ld 1 false (.t 13)⟩,
    ⟨(some 15), 240, none, .call (.c (.fn (.func 28) [] [])) [(.c (.str [105, 110, 102, 108, 111, 119])), (.t 14)]⟩,
    ⟨(some 5), 80, none, .mv (.t 15)⟩])
  (.seq (.seq (.reg [⟨(some 16), 256, none, .fa 0 (.t 1)⟩,
    ⟨(some 17), 272, none, .ld 1 false (.t 16)⟩,
    ⟨(some 18), 288, none, .len (.t 17)⟩,
    ⟨(some 19), 304, none, .mv (.c (.int .i64 0))⟩])
  (.block 0 (.loop c13L1)))
  (.seq (.reg [⟨(some 36), 576, none, .mv (.t 5)⟩,
    ⟨(some 2), 32, none, .mv (.t 36)⟩,
    ⟨(some 3), 48, none, .mv (.c (.int .i64 0))⟩])
  .ret)))))
theorem fits13 : fits Tryd.prog false Tryd.f13 1 37 [(2, none), (3, none)] = some c13.er := by kernel_rfl

set_option maxRecDepth 100000 in
set_option maxHeartbeats 8000000 in
theorem call51 (s : List UInt8) (hs : s.length ≤ 4611686018427387904) : PureCall Tryd.prog 51 [.str s] [] ⟨.tup [.int .i64 ((numberF s).getD 0), .bool (numberF s).isSome], [], []⟩ := by
  refine pure_call mix Tryd.func51 fits51 rfl ?_
  conv => whnf
  refine ⟨?_, fun hc => ?_, fun hc => ?_⟩
  · (try conv => whnf)
    (repeat' (first | exact True.intro | exact fun _ h => h | refine inR64_of ?_ ?_ | apply And.intro | refine maxLen_ge ?_)) <;> (first | omega | (dsimp only; omega) | (dsimp only [List.length_cons, List.length_nil]; omega) | (intro hg; rw [hg]; rfl) | (intro hg hh; rw [hg, hh]; rfl) | (intro hg; simp [-List.getD_eq_getElem?_getD, -Int.default_eq_zero] at hg; first | omega | (refine inR64_of ?_ ?_ <;> omega) | (constructor <;> omega)) | (simp [-List.getD_eq_getElem?_getD, -Int.default_eq_zero]; done))
  · simp only [bif_t, bif_f, decide_eq_true_eq, decide_eq_false_iff_not, Bool.not_eq_true', Bool.not_eq_false', Bool.and_eq_true, Bool.or_eq_true, Bool.and_eq_false_iff, Bool.or_eq_false_iff, beq_iff_eq, bne_iff_ne, beq_eq_false_iff_ne, bne_eq_false_iff_eq, reduceCtorEq, false_and, and_false, true_and, and_true, or_false, false_or, or_true, true_or, not_true_eq_false, not_false_eq_true, Int.toNat_zero] at hc
    have hn : numberF s = none := by unfold numberF; rw [if_pos (by omega)]
    rw [hn]
    conv => whnf
    refine ⟨?_, [], ?_⟩
    · (try conv => whnf)
      (repeat' (first | exact True.intro | exact fun _ h => h | refine inR64_of ?_ ?_ | apply And.intro | refine maxLen_ge ?_)) <;> (first | omega | (dsimp only; omega) | (dsimp only [List.length_cons, List.length_nil]; omega) | (intro hg; rw [hg]; rfl) | (intro hg hh; rw [hg, hh]; rfl) | (intro hg; simp [-List.getD_eq_getElem?_getD, -Int.default_eq_zero] at hg; first | omega | (refine inR64_of ?_ ?_ <;> omega) | (constructor <;> omega)) | (simp [-List.getD_eq_getElem?_getD, -Int.default_eq_zero]; done))
    conv => whnf
    refine ⟨rfl, ?_, trivial, trivial⟩
    all_goals repeat' (first | exact True.intro | refine leF_cons rfl ?_ ?_ | refine leS_cons rfl ?_ ?_ | (show PLe _ _ _ _; conv => whnf) | (show SLe _ _ _ _; conv => whnf) | (show PLeL _ _ _ _; conv => whnf) | apply And.intro | rfl | exact Nat.le_refl _ | exact fun _ _ => rfl | exact rowEq0 _ _)
  simp only [bif_t, bif_f, decide_eq_true_eq, decide_eq_false_iff_not, Bool.not_eq_true', Bool.not_eq_false', Bool.and_eq_true, Bool.or_eq_true, Bool.and_eq_false_iff, Bool.or_eq_false_iff, beq_iff_eq, bne_iff_ne, beq_eq_false_iff_ne, bne_eq_false_iff_eq, reduceCtorEq, false_and, and_false, true_and, and_true, or_false, false_or, or_true, true_or, not_true_eq_false, not_false_eq_true, Int.toNat_zero] at hc
  have hn : numberF s = digs 0 s := by unfold numberF; rw [if_neg (by omega)]
  have hl : 1 ≤ s.length ∧ s.length ≤ 13 := by omega
  rw [hn]
  clear hn hc hs
  conv => whnf
  refine ⟨?_, ?_⟩
  · (try conv => whnf)
    (repeat' (first | exact True.intro | exact fun _ h => h | refine inR64_of ?_ ?_ | apply And.intro | refine maxLen_ge ?_)) <;> (first | omega | (dsimp only; omega) | (dsimp only [List.length_cons, List.length_nil]; omega) | (intro hg; rw [hg]; rfl) | (intro hg hh; rw [hg, hh]; rfl) | (intro hg; simp [-List.getD_eq_getElem?_getD, -Int.default_eq_zero] at hg; first | omega | (refine inR64_of ?_ ?_ <;> omega) | (constructor <;> omega)) | (simp [-List.getD_eq_getElem?_getD, -Int.default_eq_zero]; done))
  refine LSem.loop (n := 49) mix (α := Nat × Int) (fun x => x.1 ≤ s.length ∧ digs x.2 (s.drop x.1) = digs 0 s ∧ 0 ≤ x.2 ∧ x.2 < (10 : Int) ^ x.1)
    (fun x => [(0, .str s), (4, .int .i64 x.2), (5, .int .i64 x.1)])
    (fun x => []) (fun x => s.length - x.1) (0, 0) ?_ ?_ ?_
  · exact ⟨Nat.zero_le _, rfl, Int.le_refl _, by decide⟩
  · refine ⟨rfl, rfl, ?_, ?_⟩
    all_goals repeat' (first | exact True.intro | refine leF_cons rfl ?_ ?_ | refine leS_cons rfl ?_ ?_ | (show PLe _ _ _ _; conv => whnf) | (show SLe _ _ _ _; conv => whnf) | (show PLeL _ _ _ _; conv => whnf) | apply And.intro | rfl | exact Nat.le_refl _ | exact fun _ _ => rfl | exact rowEq0 _ _)
    all_goals skip
  · intro x hx
    obtain ⟨i, a⟩ := x
    obtain ⟨h1, h2, h3, h4⟩ := hx
    dsimp only at h1 h2 h3 h4
    have hj : ((i : Int)).toNat = i := by omega
    have hpow : (10 : Int) ^ i ≤ 10 ^ 13 := (show ∀ i : Nat, i < 14 → (10 : Int) ^ i ≤ 10 ^ 13 by decide) i (by omega)
    have hu1 : IntKind.u8.min = 0 := by decide
    have hu2 : IntKind.u8.max = 255 := by decide
    have hpow2 : (10 : Int) ^ (i + 1) = 10 * 10 ^ i := by rw [Int.pow_succ, Int.mul_comm]
    have hp13 : (10 : Int) ^ 13 = 10000000000000 := by decide
    rw [hp13] at hpow
    conv => whnf
    refine ⟨trivial, fun hc => ?_, fun hc => ?_⟩
    · replace hc := of_decide_eq_true hc
      have hlt : i < s.length := by
        have h : (i : Int) < s.length := hc
        omega
      have hd := digs_drop a hlt
      have hb : (s.getD i 0).toNat < 256 := UInt8.toNat_lt _
      conv => whnf
      refine ⟨?_, fun hc2 => ?_, fun hc2 => ?_⟩
      · (try conv => whnf)
        (repeat' (first | exact True.intro | exact fun _ h => h | refine inR64_of ?_ ?_ | apply And.intro | refine maxLen_ge ?_)) <;> (first | omega | (dsimp only; omega) | (dsimp only [List.length_cons, List.length_nil]; omega) | (intro hg; rw [hg]; rfl) | (intro hg hh; rw [hg, hh]; rfl) | (intro hg; simp [-List.getD_eq_getElem?_getD, -Int.default_eq_zero] at hg; first | omega | (refine inR64_of ?_ ?_ <;> omega) | (constructor <;> omega)) | (simp [-List.getD_eq_getElem?_getD, -Int.default_eq_zero]; done))
      · simp only [bif_t, bif_f, decide_eq_true_eq, decide_eq_false_iff_not, Bool.not_eq_true', Bool.not_eq_false', Bool.and_eq_true, Bool.or_eq_true, Bool.and_eq_false_iff, Bool.or_eq_false_iff, beq_iff_eq, bne_iff_ne, beq_eq_false_iff_ne, bne_eq_false_iff_eq, reduceCtorEq, false_and, and_false, true_and, and_true, or_false, false_or, or_true, true_or, not_true_eq_false, not_false_eq_true, Int.toNat_zero] at hc2
        rw [hj] at hc2
        have hd0 : digs 0 s = none := by rw [← h2, hd, if_pos (by omega)]
        rw [hd0]
        conv => whnf
        refine ⟨?_, [], ?_⟩
        · (try conv => whnf)
          (repeat' (first | exact True.intro | exact fun _ h => h | refine inR64_of ?_ ?_ | apply And.intro | refine maxLen_ge ?_)) <;> (first | omega | (dsimp only; omega) | (dsimp only [List.length_cons, List.length_nil]; omega) | (intro hg; rw [hg]; rfl) | (intro hg hh; rw [hg, hh]; rfl) | (intro hg; simp [-List.getD_eq_getElem?_getD, -Int.default_eq_zero] at hg; first | omega | (refine inR64_of ?_ ?_ <;> omega) | (constructor <;> omega)) | (simp [-List.getD_eq_getElem?_getD, -Int.default_eq_zero]; done))
        conv => whnf
        refine ⟨rfl, ?_, trivial, trivial⟩
        all_goals repeat' (first | exact True.intro | refine leF_cons rfl ?_ ?_ | refine leS_cons rfl ?_ ?_ | (show PLe _ _ _ _; conv => whnf) | (show SLe _ _ _ _; conv => whnf) | (show PLeL _ _ _ _; conv => whnf) | apply And.intro | rfl | exact Nat.le_refl _ | exact fun _ _ => rfl | exact rowEq0 _ _)
      · simp only [bif_t, bif_f, decide_eq_true_eq, decide_eq_false_iff_not, Bool.not_eq_true', Bool.not_eq_false', Bool.and_eq_true, Bool.or_eq_true, Bool.and_eq_false_iff, Bool.or_eq_false_iff, beq_iff_eq, bne_iff_ne, beq_eq_false_iff_ne, bne_eq_false_iff_eq, reduceCtorEq, false_and, and_false, true_and, and_true, or_false, false_or, or_true, true_or, not_true_eq_false, not_false_eq_true, Int.toNat_zero] at hc2
        rw [hj] at hc2
        rw [if_neg (by omega)] at hd
        conv => whnf
        refine ⟨?_, (i + 1, 10 * a + (((s.getD i 0).toNat : Int) - 48)), ⟨hlt, by rw [← hd]; exact h2, ?_, ?_⟩, ?_, rfl, rfl, ?_, ?_⟩
        · (try conv => whnf)
          rw [hj]
          (repeat' (first | exact True.intro | exact fun _ h => h | refine inR64_of ?_ ?_ | apply And.intro)) <;> (first | omega | (rw [hu1]; omega) | (rw [hu2]; omega))
        · dsimp only; omega
        · dsimp only; rw [hpow2]; omega
        · dsimp only; omega
        all_goals repeat' (first | exact True.intro | refine leF_cons rfl ?_ ?_ | refine leS_cons rfl ?_ ?_ | (show PLe _ _ _ _; conv => whnf) | (show SLe _ _ _ _; conv => whnf) | (show PLeL _ _ _ _; conv => whnf) | apply And.intro | rfl | exact Nat.le_refl _ | exact fun _ _ => rfl | exact rowEq0 _ _)
        all_goals first | omega | (rw [hj]; done) | skip
    · replace hc := of_decide_eq_false hc
      have hk : i = s.length := by
        have h : ¬ (i : Int) < s.length := hc
        omega
      subst hk
      rw [← h2, List.drop_length]
      conv => whnf
      refine ⟨?_, [], ?_⟩
      · (try conv => whnf)
        (repeat' (first | exact True.intro | exact fun _ h => h | refine inR64_of ?_ ?_ | apply And.intro | refine maxLen_ge ?_)) <;> (first | omega | (dsimp only; omega) | (dsimp only [List.length_cons, List.length_nil]; omega) | (intro hg; rw [hg]; rfl) | (intro hg hh; rw [hg, hh]; rfl) | (intro hg; simp [-List.getD_eq_getElem?_getD, -Int.default_eq_zero] at hg; first | omega | (refine inR64_of ?_ ?_ <;> omega) | (constructor <;> omega)) | (simp [-List.getD_eq_getElem?_getD, -Int.default_eq_zero]; done))
      conv => whnf
      refine ⟨rfl, ?_, trivial, trivial⟩
      all_goals repeat' (first | exact True.intro | refine leF_cons rfl ?_ ?_ | refine leS_cons rfl ?_ ?_ | (show PLe _ _ _ _; conv => whnf) | (show SLe _ _ _ _; conv => whnf) | (show PLeL _ _ _ _; conv => whnf) | apply And.intro | rfl | exact Nat.le_refl _ | exact fun _ _ => rfl | exact rowEq0 _ _)
set_option maxRecDepth 100000 in
set_option maxHeartbeats 8000000 in
theorem call33 (s word : List UInt8) (hs : s.length < 4294967281) : PureCall Tryd.prog 33 [.str s, .str word] [] ⟨.tup [.sl 0 1 ((numbersF s word).getD []).length (fl eInt ((numbersF s word).getD [])), .bool (numbersF s word).isSome], [], []⟩ := by
  refine pure_call mix Tryd.func33 fits33 rfl ?_
  conv => whnf
  refine ⟨_, fun _ => call32 s 32 hs, ?_⟩
  have hL0 : 0 < (splitC 32 s).length := List.length_pos_iff.2 (splitC_ne 32 s)
  have hL1 := splitC_len 32 s
  unfold numbersF
  generalize splitC 32 s = L at hL0 hL1 ⊢
  conv => whnf
  refine ⟨?_, fun hc => ?_, fun hc => ?_⟩
  · (try conv => whnf)
    (repeat' (first | exact True.intro | exact fun _ h => h | refine inR64_of ?_ ?_ | apply And.intro | refine maxLen_ge ?_)) <;> (first | omega | (dsimp only; omega) | (dsimp only [List.length_cons, List.length_nil]; omega) | (intro hg; rw [hg]; rfl) | (intro hg hh; rw [hg, hh]; rfl) | (intro hg; simp [-List.getD_eq_getElem?_getD, -Int.default_eq_zero] at hg; first | omega | (refine inR64_of ?_ ?_ <;> omega) | (constructor <;> omega)) | (simp [-List.getD_eq_getElem?_getD, -Int.default_eq_zero]; done))
  · simp only [bif_t, bif_f, decide_eq_true_eq, decide_eq_false_iff_not, Bool.not_eq_true', Bool.not_eq_false', Bool.and_eq_true, Bool.or_eq_true, Bool.and_eq_false_iff, Bool.or_eq_false_iff, beq_iff_eq, bne_iff_ne, beq_eq_false_iff_ne, bne_eq_false_iff_eq, reduceCtorEq, false_and, and_false, true_and, and_true, or_false, false_or, or_true, true_or, not_true_eq_false, not_false_eq_true, Int.toNat_zero] at hc
    rw [if_pos hc]
    conv => whnf
    refine ⟨?_, [], ?_⟩
    · (try conv => whnf)
      (repeat' (first | exact True.intro | exact fun _ h => h | refine inR64_of ?_ ?_ | apply And.intro | refine maxLen_ge ?_)) <;> (first | omega | (dsimp only; omega) | (dsimp only [List.length_cons, List.length_nil]; omega) | (intro hg; rw [hg]; rfl) | (intro hg hh; rw [hg, hh]; rfl) | (intro hg; simp [-List.getD_eq_getElem?_getD, -Int.default_eq_zero] at hg; first | omega | (refine inR64_of ?_ ?_ <;> omega) | (constructor <;> omega)) | (simp [-List.getD_eq_getElem?_getD, -Int.default_eq_zero]; done))
    conv => whnf
    refine ⟨rfl, ?_, trivial, trivial⟩
    all_goals repeat' (first | exact True.intro | refine leF_cons rfl ?_ ?_ | refine leS_cons rfl ?_ ?_ | (show PLe _ _ _ _; conv => whnf) | (show SLe _ _ _ _; conv => whnf) | (show PLeL _ _ _ _; conv => whnf) | apply And.intro | rfl | exact Nat.le_refl _ | exact fun _ _ => rfl | exact rowEq0 _ _)
  simp only [bif_t, bif_f, decide_eq_true_eq, decide_eq_false_iff_not, Bool.not_eq_true', Bool.not_eq_false', Bool.and_eq_true, Bool.or_eq_true, Bool.and_eq_false_iff, Bool.or_eq_false_iff, beq_iff_eq, bne_iff_ne, beq_eq_false_iff_ne, bne_eq_false_iff_eq, reduceCtorEq, false_and, and_false, true_and, and_true, or_false, false_or, or_true, true_or, not_true_eq_false, not_false_eq_true, Int.toNat_zero] at hc
  rw [if_neg (fun h => h hc)]
  conv => whnf
  refine ⟨?_, ?_⟩
  · (try conv => whnf)
    (repeat' (first | exact True.intro | exact fun _ h => h | refine inR64_of ?_ ?_ | apply And.intro | refine maxLen_ge ?_)) <;> (first | omega | (dsimp only; omega) | (dsimp only [List.length_cons, List.length_nil]; omega) | (intro hg; rw [hg]; rfl) | (intro hg hh; rw [hg, hh]; rfl) | (intro hg; simp [-List.getD_eq_getElem?_getD, -Int.default_eq_zero] at hg; first | omega | (refine inR64_of ?_ ?_ <;> omega) | (constructor <;> omega)) | (simp [-List.getD_eq_getElem?_getD, -Int.default_eq_zero]; done))
  refine LSem.adopt 6 1000000 3 1 1 rfl rfl ?_
  refine LSem.loop (n := 39) mix (α := Nat × List Int) (fun x => x.1 + 1 ≤ L.length ∧ (mapNum (L.drop (x.1 + 1))).map (x.2 ++ ·) = mapNum (L.drop 1) ∧ x.2.length = x.1)
    (fun x => [(6, .os 1000000), (20, .vw false 208 1 (L.length - 1)), (21, .int .i64 (L.length - 1 : Nat)), (22, .int .i64 x.1)])
    (fun x => [(208, .row 0 9 1 L.length (fl eStr L)), (1000000, .row 0 3 1 x.2.length (fl eInt x.2))]) (fun x => L.length - x.1) (0, []) ?_ ?_ ?_
  · refine ⟨hL0, ?_, rfl⟩
    dsimp only
    cases mapNum (L.drop 1) <;> simp
  · refine ⟨rfl, rfl, ?_, ?_⟩
    all_goals repeat' (first | exact True.intro | refine leF_cons rfl ?_ ?_ | refine leS_cons rfl ?_ ?_ | (show PLe _ _ _ _; conv => whnf) | (show SLe _ _ _ _; conv => whnf) | (show PLeL _ _ _ _; conv => whnf) | apply And.intro | rfl | exact Nat.le_refl _ | exact fun _ _ => rfl | exact rowEq0 _ _)
    all_goals skip
  · intro x hx
    obtain ⟨i, l⟩ := x
    obtain ⟨h1, h2, h3⟩ := hx
    dsimp only at h1 h2 h3
    conv => whnf
    refine ⟨trivial, fun hc2 => ?_, fun hc2 => ?_⟩
    · replace hc2 := of_decide_eq_true hc2
      have hlt : i + 1 < L.length := by
        have h : (i : Int) < (L.length - 1 : Nat) := hc2
        omega
      have hj : 1 + ((i : Int)).toNat = i + 1 := by omega
      have hd := mapNum_drop hlt
      have hsz : (L.getD (i + 1) default).length ≤ 4611686018427387904 := by
        have := hL1.2 _ (getD_mem hlt)
        omega
      conv => whnf
      rw [hj]
      refine ⟨_, fun _ => call51 (L.getD (i + 1) default) hsz, ?_⟩
      generalize numberF (L.getD (i + 1) default) = N at hd
      cases N with
      | none =>
        conv => whnf
        refine ⟨?_, fun _ => ?_, fun h => absurd h (by decide)⟩
        · (try conv => whnf)
          (repeat' (first | exact True.intro | exact fun _ h => h | refine inR64_of ?_ ?_ | apply And.intro | refine maxLen_ge ?_)) <;> (first | omega | (dsimp only; omega) | (dsimp only [List.length_cons, List.length_nil]; omega) | (intro hg; rw [hg]; rfl) | (intro hg hh; rw [hg, hh]; rfl) | (intro hg; simp [-List.getD_eq_getElem?_getD, -Int.default_eq_zero] at hg; first | omega | (refine inR64_of ?_ ?_ <;> omega) | (constructor <;> omega)) | (simp [-List.getD_eq_getElem?_getD, -Int.default_eq_zero]; done))
        have hm : mapNum (L.drop 1) = none := by rw [← h2, hd]; rfl
        rw [hm]
        conv => whnf
        refine ⟨?_, [], ?_⟩
        · (try conv => whnf)
          (repeat' (first | exact True.intro | exact fun _ h => h | refine inR64_of ?_ ?_ | apply And.intro | refine maxLen_ge ?_)) <;> (first | omega | (dsimp only; omega) | (dsimp only [List.length_cons, List.length_nil]; omega) | (intro hg; rw [hg]; rfl) | (intro hg hh; rw [hg, hh]; rfl) | (intro hg; simp [-List.getD_eq_getElem?_getD, -Int.default_eq_zero] at hg; first | omega | (refine inR64_of ?_ ?_ <;> omega) | (constructor <;> omega)) | (simp [-List.getD_eq_getElem?_getD, -Int.default_eq_zero]; done))
        conv => whnf
        refine ⟨rfl, ?_, trivial, trivial⟩
        all_goals repeat' (first | exact True.intro | refine leF_cons rfl ?_ ?_ | refine leS_cons rfl ?_ ?_ | (show PLe _ _ _ _; conv => whnf) | (show SLe _ _ _ _; conv => whnf) | (show PLeL _ _ _ _; conv => whnf) | apply And.intro | rfl | exact Nat.le_refl _ | exact fun _ _ => rfl | exact rowEq0 _ _)
      | some n =>
        conv => whnf
        refine ⟨?_, fun h => absurd h Bool.false_ne_true, fun _ => ?_⟩
        · (try conv => whnf)
          (repeat' (first | exact True.intro | exact fun _ h => h | refine inR64_of ?_ ?_ | apply And.intro | refine maxLen_ge ?_)) <;> (first | omega | (dsimp only; omega) | (dsimp only [List.length_cons, List.length_nil]; omega) | (intro hg; rw [hg]; rfl) | (intro hg hh; rw [hg, hh]; rfl) | (intro hg; simp [-List.getD_eq_getElem?_getD, -Int.default_eq_zero] at hg; first | omega | (refine inR64_of ?_ ?_ <;> omega) | (constructor <;> omega)) | (simp [-List.getD_eq_getElem?_getD, -Int.default_eq_zero]; done))
        conv => whnf
        have q := fl_push eInt l n
        refine ⟨?_, (i + 1, l ++ [n]), ⟨hlt, ?_, ?_⟩, ?_, rfl, rfl, ?_, ?_⟩
        · (try conv => whnf)
          (repeat' (first | exact True.intro | exact fun _ h => h | refine inR64_of ?_ ?_ | apply And.intro | refine maxLen_ge ?_)) <;> (first | omega | (dsimp only; omega) | (dsimp only [List.length_cons, List.length_nil]; omega) | (intro hg; rw [hg]; rfl) | (intro hg hh; rw [hg, hh]; rfl) | (intro hg; simp [-List.getD_eq_getElem?_getD, -Int.default_eq_zero] at hg; first | omega | (refine inR64_of ?_ ?_ <;> omega) | (constructor <;> omega)) | (simp [-List.getD_eq_getElem?_getD, -Int.default_eq_zero]; done))
        · rw [← h2, hd]
          dsimp only
          rw [Option.map_map]
          congr 1
          funext x
          simp
        · dsimp only; rw [List.length_append, h3]; rfl
        · dsimp only; omega
        all_goals repeat' (first | exact True.intro | refine leF_cons rfl ?_ ?_ | refine leS_cons rfl ?_ ?_ | (show PLe _ _ _ _; conv => whnf) | (show SLe _ _ _ _; conv => whnf) | (show PLeL _ _ _ _; conv => whnf) | apply And.intro | rfl | exact Nat.le_refl _ | exact fun _ _ => rfl | exact rowEq0 _ _)
        all_goals first | omega | exact q | (simp only [List.length_append, List.length_cons, List.length_nil]; done) | skip
    · replace hc2 := of_decide_eq_false hc2
      have hk : i + 1 = L.length := by
        have h : ¬ (i : Int) < (L.length - 1 : Nat) := hc2
        omega
      have hm : mapNum (L.drop 1) = some l := by rw [← h2, hk, List.drop_length]; simp [mapNum]
      rw [hm]
      conv => whnf
      refine ⟨?_, [], ?_⟩
      · (try conv => whnf)
        (repeat' (first | exact True.intro | exact fun _ h => h | refine inR64_of ?_ ?_ | apply And.intro | refine maxLen_ge ?_)) <;> (first | omega | (dsimp only; omega) | (dsimp only [List.length_cons, List.length_nil]; omega) | (intro hg; rw [hg]; rfl) | (intro hg hh; rw [hg, hh]; rfl) | (intro hg; simp [-List.getD_eq_getElem?_getD, -Int.default_eq_zero] at hg; first | omega | (refine inR64_of ?_ ?_ <;> omega) | (constructor <;> omega)) | (simp [-List.getD_eq_getElem?_getD, -Int.default_eq_zero]; done))
      conv => whnf
      refine ⟨rfl, ?_, trivial, trivial⟩
      all_goals repeat' (first | exact True.intro | refine leF_cons rfl ?_ ?_ | refine leS_cons rfl ?_ ?_ | (show PLe _ _ _ _; conv => whnf) | (show SLe _ _ _ _; conv => whnf) | (show PLeL _ _ _ _; conv => whnf) | apply And.intro | rfl | exact Nat.le_refl _ | exact fun _ _ => rfl | exact rowEq0 _ _)

set_option maxRecDepth 100000 in
set_option maxHeartbeats 4000000 in
theorem call28 (τ : Nat) (w : List UInt8) (l : List Int) (hr : I64 l) (h : w.length + 22 * l.length + 1 ≤ 140737488355328) : PureCall Tryd.prog 28 [.str w, .sl τ 1 l.length (fl eInt l)] [] ⟨.str (lineF w l), [], []⟩ := by
  have hlen := numsT_len hr
  refine pure_call mix Tryd.func28 fits28 rfl ?_
  conv => whnf
  refine ⟨?_, ?_⟩
  · (try conv => whnf)
    (repeat' (first | exact True.intro | exact fun _ h => h | refine inR64_of ?_ ?_ | apply And.intro | refine maxLen_ge ?_)) <;> (first | omega | (dsimp only; omega) | (dsimp only [List.length_cons, List.length_nil]; omega) | (intro hg; rw [hg]; rfl) | (intro hg hh; rw [hg, hh]; rfl) | (intro hg; simp [-List.getD_eq_getElem?_getD, -Int.default_eq_zero] at hg; first | omega | (refine inR64_of ?_ ?_ <;> omega) | (constructor <;> omega)) | (simp [-List.getD_eq_getElem?_getD, -Int.default_eq_zero]; done))
  refine LSem.loop (n := 21) mix (α := Nat) (fun i => i ≤ l.length)
    (fun i => [(0, .str (w ++ numsT (l.take i))), (7, .sl τ 1 l.length (fl eInt l)), (8, .int .i64 l.length), (9, .int .i64 i)])
    (fun i => []) (fun i => l.length - i) 0 ?_ ?_ ?_
  · exact Nat.zero_le _
  · refine ⟨rfl, rfl, ?_, ?_⟩
    all_goals repeat' (first | exact True.intro | refine leF_cons rfl ?_ ?_ | refine leS_cons rfl ?_ ?_ | (show PLe _ _ _ _; conv => whnf) | (show SLe _ _ _ _; conv => whnf) | (show PLeL _ _ _ _; conv => whnf) | apply And.intro | rfl | exact Nat.le_refl _ | exact fun _ _ => rfl | exact rowEq0 _ _)
    all_goals first | (simp [numsT]; done) | skip
  · intro i hi
    have hj : ((i : Int)).toNat = i := by omega
    conv => whnf
    refine ⟨trivial, fun hc => ?_, fun hc => ?_⟩
    · replace hc := of_decide_eq_true hc
      have hlt : i < l.length := by
        have h : (i : Int) < l.length := hc
        omega
      have h1 := hr i hlt
      have h3 := numsT_step hlt
      conv => whnf
      rw [hj]
      refine ⟨_, fun _ => call47 (l.getD i default) h1.1 h1.2, ?_⟩
      conv => whnf
      have h4 := hlen (i + 1) hlt
      rw [h3] at h4
      simp only [List.length_append, List.length_cons, List.length_nil] at h4
      refine ⟨?_, i + 1, hlt, ?_, rfl, rfl, ?_, ?_⟩
      · (try conv => whnf)
        (repeat' (first | exact True.intro | exact fun _ h => h | refine inR64_of ?_ ?_ | apply And.intro | refine maxLen_ge ?_))
        all_goals (try simp only [List.length_append, List.length_cons, List.length_nil])
        all_goals first | omega | skip
      · omega
      all_goals repeat' (first | exact True.intro | refine leF_cons rfl ?_ ?_ | refine leS_cons rfl ?_ ?_ | (show PLe _ _ _ _; conv => whnf) | (show SLe _ _ _ _; conv => whnf) | (show PLeL _ _ _ _; conv => whnf) | apply And.intro | rfl | exact Nat.le_refl _ | exact fun _ _ => rfl | exact rowEq0 _ _)
      all_goals first | omega | (rw [h3]; simp only [List.append_assoc, List.cons_append, List.nil_append]; done) | skip
    · replace hc := of_decide_eq_false hc
      have hk : i = l.length := by
        have h : ¬ (i : Int) < l.length := hc
        omega
      subst hk
      have h4 := hlen l.length (Nat.le_refl _)
      rw [List.take_length] at h4 ⊢
      conv => whnf
      refine ⟨?_, [], ?_⟩
      · (try conv => whnf)
        (repeat' (first | exact True.intro | exact fun _ h => h | refine inR64_of ?_ ?_ | apply And.intro | refine maxLen_ge ?_))
        all_goals (try simp only [List.length_append, List.length_cons, List.length_nil])
        all_goals first | omega | skip
      conv => whnf
      refine ⟨rfl, ?_, trivial, trivial⟩
      all_goals repeat' (first | exact True.intro | refine leF_cons rfl ?_ ?_ | refine leS_cons rfl ?_ ?_ | (show PLe _ _ _ _; conv => whnf) | (show SLe _ _ _ _; conv => whnf) | (show PLeL _ _ _ _; conv => whnf) | apply And.intro | rfl | exact Nat.le_refl _ | exact fun _ _ => rfl | exact rowEq0 _ _)

set_option maxRecDepth 100000 in
set_option maxHeartbeats 8000000 in
theorem call13 (σ : Nat) (t : FT) (h1 : t.lv.length ≤ 4611686018427387904) (h2 : t.inf.length ≤ 4611686018427387904) (h3 : t.rel.length ≤ 4611686018427387904) (h4 : ∀ i, i < t.rel.length → (t.rel.getD i default).length ≤ 4611686018427387904) :
    PureCall Tryd.prog 13 [.agg (eFT 2 σ t)] [] ⟨.tup [.str (formatF t).1, .int .i64 (formatF t).2], [], []⟩ := by
  refine pure_call mix Tryd.func13 fits13 rfl ?_
  conv => whnf
  refine ⟨_, fun _ => call23 σ t h1 h2 h3 h4, ?_⟩
  have hok := check_ok (t := t)
  unfold formatF
  generalize checkF t = E at hok ⊢
  conv => whnf
  refine ⟨?_, fun hc => ?_, fun hc => ?_⟩
  · (try conv => whnf)
    (repeat' (first | exact True.intro | exact fun _ h => h | refine inR64_of ?_ ?_ | apply And.intro | refine maxLen_ge ?_)) <;> (first | omega | (dsimp only; omega) | (dsimp only [List.length_cons, List.length_nil]; omega) | (intro hg; rw [hg]; rfl) | (intro hg hh; rw [hg, hh]; rfl) | (intro hg; simp [-List.getD_eq_getElem?_getD, -Int.default_eq_zero] at hg; first | omega | (refine inR64_of ?_ ?_ <;> omega) | (constructor <;> omega)) | (simp [-List.getD_eq_getElem?_getD, -Int.default_eq_zero]; done))
  · simp only [bif_t, bif_f, decide_eq_true_eq, decide_eq_false_iff_not, Bool.not_eq_true', Bool.not_eq_false', Bool.and_eq_true, Bool.or_eq_true, Bool.and_eq_false_iff, Bool.or_eq_false_iff, beq_iff_eq, bne_iff_ne, beq_eq_false_iff_ne, bne_eq_false_iff_eq, reduceCtorEq, false_and, and_false, true_and, and_true, or_false, false_or, or_true, true_or, not_true_eq_false, not_false_eq_true, Int.toNat_zero] at hc
    rw [if_pos hc]
    conv => whnf
    refine ⟨?_, [], ?_⟩
    · (try conv => whnf)
      (repeat' (first | exact True.intro | exact fun _ h => h | refine inR64_of ?_ ?_ | apply And.intro | refine maxLen_ge ?_)) <;> (first | omega | (dsimp only; omega) | (dsimp only [List.length_cons, List.length_nil]; omega) | (intro hg; rw [hg]; rfl) | (intro hg hh; rw [hg, hh]; rfl) | (intro hg; simp [-List.getD_eq_getElem?_getD, -Int.default_eq_zero] at hg; first | omega | (refine inR64_of ?_ ?_ <;> omega) | (constructor <;> omega)) | (simp [-List.getD_eq_getElem?_getD, -Int.default_eq_zero]; done))
    conv => whnf
    refine ⟨rfl, ?_, trivial, trivial⟩
    all_goals repeat' (first | exact True.intro | refine leF_cons rfl ?_ ?_ | refine leS_cons rfl ?_ ?_ | (show PLe _ _ _ _; conv => whnf) | (show SLe _ _ _ _; conv => whnf) | (show PLeL _ _ _ _; conv => whnf) | apply And.intro | rfl | exact Nat.le_refl _ | exact fun _ _ => rfl | exact rowEq0 _ _)
  simp only [bif_t, bif_f, decide_eq_true_eq, decide_eq_false_iff_not, Bool.not_eq_true', Bool.not_eq_false', Bool.and_eq_true, Bool.or_eq_true, Bool.and_eq_false_iff, Bool.or_eq_false_iff, beq_iff_eq, bne_iff_ne, beq_eq_false_iff_ne, bne_eq_false_iff_eq, reduceCtorEq, false_and, and_false, true_and, and_true, or_false, false_or, or_true, true_or, not_true_eq_false, not_false_eq_true, Int.toNat_zero] at hc
  rw [if_neg (by omega)]
  have ht := hok (by omega)
  have hl1 := ht.l1
  have hl2 := ht.l2
  have hl3 := ht.l3
  have hinf := lineF_len (w := wInflow) ht.iinf
  have hw : wInflow.length = 6 := rfl
  have hw2 : wLevel.length = 5 := rfl
  conv => whnf
  refine ⟨_, fun _ => call28 2 wInflow t.inf ht.iinf (by omega), ?_⟩
  conv => whnf
  refine ⟨?_, ?_⟩
  · (try conv => whnf)
    (repeat' (first | exact True.intro | exact fun _ h => h | refine inR64_of ?_ ?_ | apply And.intro | refine maxLen_ge ?_)) <;> (first | omega | (dsimp only; omega) | (dsimp only [List.length_cons, List.length_nil]; omega) | (intro hg; rw [hg]; rfl) | (intro hg hh; rw [hg, hh]; rfl) | (intro hg; simp [-List.getD_eq_getElem?_getD, -Int.default_eq_zero] at hg; first | omega | (refine inR64_of ?_ ?_ <;> omega) | (constructor <;> omega)) | (simp [-List.getD_eq_getElem?_getD, -Int.default_eq_zero]; done))
  refine LSem.loop (n := 37) mix (α := Nat) (fun i => i ≤ t.lv.length)
    (fun i => [(1, .pt 16 0 0), (5, .str (lineF wInflow t.inf ++ levT t i)), (17, .sl 2 1 t.lv.length (fl eInt t.lv)), (18, .int .i64 t.lv.length), (19, .int .i64 i)])
    (fun i => [(16, .box [.sl 2 1 t.lv.length (fl eInt t.lv), .sl 2 1 t.inf.length (fl eInt t.inf), .sl 2 1 t.rel.length (fl (eIs σ) t.rel)])]) (fun i => t.lv.length - i) 0 ?_ ?_ ?_
  · exact Nat.zero_le _
  · refine ⟨rfl, rfl, ?_, ?_⟩
    all_goals repeat' (first | exact True.intro | refine leF_cons rfl ?_ ?_ | refine leS_cons rfl ?_ ?_ | (show PLe _ _ _ _; conv => whnf) | (show SLe _ _ _ _; conv => whnf) | (show PLeL _ _ _ _; conv => whnf) | apply And.intro | rfl | exact Nat.le_refl _ | exact fun _ _ => rfl | exact rowEq0 _ _)
    all_goals first | (simp [levT]; done) | skip
  · intro i hi
    have hj : ((i : Int)).toNat = i := by omega
    have hlen := levT_len ht i hi
    conv => whnf
    refine ⟨trivial, fun hc => ?_, fun hc => ?_⟩
    · replace hc := of_decide_eq_true hc
      have hlt : i < t.lv.length := by
        have h : (i : Int) < t.lv.length := hc
        omega
      have hrow := ht.row (i := i) (by omega)
      have hi64 := ht.irow hlt
      have hll := lineF_len (w := wLevel) hi64
      rw [List.length_cons] at hll
      conv => whnf
      refine ⟨_, fun _ => PureCall.arg_le (call28 2 wLevel (t.lv.getD i default :: t.rel.getD i default) hi64 (by simp only [List.length_cons]; omega)) rfl (by
        all_goals repeat' (first | exact True.intro | refine leF_cons rfl ?_ ?_ | refine leS_cons rfl ?_ ?_ | (show PLe _ _ _ _; conv => whnf) | (show SLe _ _ _ _; conv => whnf) | (show PLeL _ _ _ _; conv => whnf) | apply And.intro | rfl | exact Nat.le_refl _ | exact fun _ _ => rfl | exact rowEq0 _ _)
        · rw [hj]; show 1 + _ = (t.rel.getD i default).length + 1; omega
        · rw [hj]; exact fl_cons eInt _ _), ?_⟩
      conv => whnf
      refine ⟨?_, i + 1, hlt, ?_, rfl, rfl, ?_, ?_⟩
      · (try conv => whnf)
        rw [hj]
        repeat' (first | exact True.intro | exact fun _ h => h | refine inR64_of ?_ ?_ | apply And.intro | refine maxLen_ge ?_)
        all_goals (try simp only [List.length_cons, List.length_nil, List.length_append])
        all_goals first | omega | skip
      · omega
      all_goals repeat' (first | exact True.intro | refine leF_cons rfl ?_ ?_ | refine leS_cons rfl ?_ ?_ | (show PLe _ _ _ _; conv => whnf) | (show SLe _ _ _ _; conv => whnf) | (show PLeL _ _ _ _; conv => whnf) | apply And.intro | rfl | exact Nat.le_refl _ | exact fun _ _ => rfl | exact rowEq0 _ _)
      all_goals first | omega | (simp only [levT, List.append_assoc]; done) | skip
    · replace hc := of_decide_eq_false hc
      have hk : i = t.lv.length := by
        have h : ¬ (i : Int) < t.lv.length := hc
        omega
      subst hk
      conv => whnf
      refine ⟨?_, [], ?_⟩
      · (try conv => whnf)
        (repeat' (first | exact True.intro | exact fun _ h => h | refine inR64_of ?_ ?_ | apply And.intro | refine maxLen_ge ?_)) <;> (first | omega | (dsimp only; omega) | (dsimp only [List.length_cons, List.length_nil]; omega) | (intro hg; rw [hg]; rfl) | (intro hg hh; rw [hg, hh]; rfl) | (intro hg; simp [-List.getD_eq_getElem?_getD, -Int.default_eq_zero] at hg; first | omega | (refine inR64_of ?_ ?_ <;> omega) | (constructor <;> omega)) | (simp [-List.getD_eq_getElem?_getD, -Int.default_eq_zero]; done))
      conv => whnf
      refine ⟨rfl, ?_, trivial, trivial⟩
      all_goals repeat' (first | exact True.intro | refine leF_cons rfl ?_ ?_ | refine leS_cons rfl ?_ ?_ | (show PLe _ _ _ _; conv => whnf) | (show SLe _ _ _ _; conv => whnf) | (show PLeL _ _ _ _; conv => whnf) | apply And.intro | rfl | exact Nat.le_refl _ | exact fun _ _ => rfl | exact rowEq0 _ _)
end Pv
end Go.Proofs.YtcfcmafmdpbjoaaDoor

/- LAW 24, THE WALKS: the second form: texts are read. -/
set_option linter.unusedSimpArgs false
set_option linter.unusedVariables false
namespace Go.Proofs.YtcfcmafmdpbjoaaDoor
namespace Pv
def c15L1 : C := (.seq (.reg [⟨(some 19), 304, none, .bi false .lss (.t 18) (.t 17)⟩])
  (.seq (.cond (.t 19) .skip (.exit 0))
  (.seq (.block 1 (.seq (.reg [⟨(some 20), 320, none, .mv (.t 18)⟩,
    ⟨(some 21), 336, none, .ia 1 (.t 16) (.t 18)⟩,
    ⟨(some 22), 352, none, .ld 1 false (.t 21)⟩,
    ⟨(some 7), 112, none, .mv (.t 20)⟩,
    ⟨(some 8), 128, none, .mv (.t 22)⟩])
  (.seq (.seq (.reg [⟨(some 23), 368, none, .mv (.t 7)⟩,
    ⟨(some 24), 384, none, .mv (.t 6)⟩,
    ⟨(some 25), 400, none, .len (.t 24)⟩,
    ⟨(some 26), 416, none, .bi false .sub (.t 25) (.c (.int .i64 1))⟩,
    ⟨(some 27), 432, none, .bi false .eql (.t 23) (.t 26)⟩])
  (.cond (.t 27) (.seq (.seq (.reg [⟨(some 28), 448, none, .mv (.t 8)⟩,
    ⟨(some 29), 464, none, .bi false .neq (.t 28) (.c (.str []))⟩,
    ⟨(some 30), 480, none, .mv (.t 29)⟩,
    ⟨(some 31), 496, (some (30, false)), .mv (.t 7)⟩,
    ⟨(some 32), 512, (some (30, false)), .bi false .eql (.t 31) (.c (.int .i64 0))⟩,
    ⟨(some 33), 528, none, .pick (.t 30) (.c (.bool true)) (.t 32)⟩])
  (.cond (.t 33) (.seq (.reg [⟨(some 34), 544, none, .bd [(.nil 1), (.nil 1), (.nil 1)] []⟩,
    ⟨(some 35), 560, none, .mv (.t 7)⟩,
    ⟨(some 36), 576, none, .bi false .add (.t 35) (.c (.int .i64 1))⟩,
    ⟨none, 0, none, .st 3 (.t 2) (.t 34)⟩,
    ⟨(some 3), 48, none, .mv (.t 36)⟩,
    ⟨(some 4), 64, none, .mv (.c (.int .i64 7))⟩])
  .ret) .skip))
  (.exit 0)) .skip))
  (.seq (.seq (.reg [⟨(some 37), 592, none, .mv (.t 7)⟩,
    ⟨(some 38), 608, none, .bi false .eql (.t 37) (.c (.int .i64 0))⟩])
  (.cond (.t 38) (.seq (.reg [⟨(some 40), 640, none, .mv (.t 8)⟩,
    ⟨(some 41), 656, none, .call (.c (.fn (.func 33) [] [])) [(.t 40), (.c (.str [105, 110, 102, 108, 111, 119]))]⟩,
    ⟨(some 39), 624, none, .mv (.t 41)⟩,
    ⟨(some 42), 672, none, .ex (.t 39) 0⟩,
    ⟨(some 43), 688, none, .ex (.t 39) 1⟩,
    ⟨(some 9), 144, none, .mv (.t 42)⟩,
    ⟨(some 10), 160, none, .mv (.t 43)⟩])
  (.seq (.seq (.reg [⟨(some 44), 704, none, .mv (.t 10)⟩,
    ⟨(some 45), 720, none, .un false .not (.t 44)⟩])
  (.cond (.t 45) (.seq (.reg [⟨(some 46), 736, none, .bd [(.nil 1), (.nil 1), (.nil 1)] []⟩,
    ⟨none, 0, none, .st 3 (.t 2) (.t 46)⟩,
    ⟨(some 3), 48, none, .mv (.c (.int .i64 1))⟩,
    ⟨(some 4), 64, none, .mv (.c (.int .i64 7))⟩])
  .ret) .skip))
  (.seq (.reg [⟨(some 47), 752, none, .mv (.t 9)⟩,
    ⟨(some 48), 768, none, .fa 1 (.t 5)⟩,
    ⟨none, 0, none, .st 1 (.t 48) (.t 47)⟩])
  (.exit 1)))) .skip))
  (.seq (.reg [⟨(some 50), 800, none, .mv (.t 8)⟩,
    ⟨(some 51), 816, none, .call (.c (.fn (.func 33) [] [])) [(.t 50), (.c (.str [108, 101, 118, 101, 108]))]⟩,
    ⟨(some 49), 784, none, .mv (.t 51)⟩,
    ⟨(some 52), 832, none, .ex (.t 49) 0⟩,
    ⟨(some 53), 848, none, .ex (.t 49) 1⟩,
    ⟨(some 11), 176, none, .mv (.t 52)⟩,
    ⟨(some 12), 192, none, .mv (.t 53)⟩])
  (.seq (.seq (.reg [⟨(some 54), 864, none, .mv (.t 12)⟩,
    ⟨(some 55), 880, none, .un false .not (.t 54)⟩,
    ⟨(some 56), 896, none, .mv (.t 55)⟩,
    ⟨(some 57), 912, (some (56, false)), .mv (.t 11)⟩,
    ⟨(some 58), 928, (some (56, false)), .len (.t 57)⟩,
    ⟨(some 59), 944, (some (56, false)), .bi false .lss (.t 58) (.c (.int .i64 1))⟩,
    ⟨(some 60), 960, none, .pick (.t 56) (.c (.bool true)) (.t 59)⟩])
  (.cond (.t 60) (.seq (.reg [⟨(some 61), 976, none, .bd [(.nil 1), (.nil 1), (.nil 1)] []⟩,
    ⟨(some 62), 992, none, .mv (.t 7)⟩,
    ⟨(some 63), 1008, none, .bi false .add (.t 62) (.c (.int .i64 1))⟩,
    ⟨none, 0, none, .st 3 (.t 2) (.t 61)⟩,
    ⟨(some 3), 48, none, .mv (.t 63)⟩,
    ⟨(some 4), 64, none, .mv (.c (.int .i64 7))⟩])
  .ret) .skip))
  (.drw [⟨(some 64), 1024, none, .fa 0 (.t 5)⟩,
    ⟨(some 65), 1040, none, .ld 1 false (.t 64)⟩,
    ⟨(some 66), 1056, none, .mv (.t 11)⟩,
    ⟨(some 67), 1072, none, .ia 1 (.t 66) (.c (.int .i64 0))⟩,
    ⟨(some 68), 1088, none, .ld 1 false (.t 67)⟩,
    ⟨(some 69), 1104, none, .bs 3 1 [(.t 68)]⟩,
    ⟨(some 70), 1120, none, .app 3 1 8 (.t 65) (.t 69)⟩,
    ⟨(some 71), 1136, none, .fa 2 (.t 5)⟩,
    ⟨(some 72), 1152, none, .ld 1 false (.t 71)⟩,
    ⟨(some 73), 1168, none, .mv (.t 11)⟩,
    ⟨(some 74), 1184, none, .slc 1 (.t 73) (some (.c (.int .i64 1))) none⟩,
    ⟨(some 75), 1200, none, .bs 22 1 [(.t 74)]⟩,
    ⟨(some 76), 1216, none, .app 22 1 24 (.t 72) (.t 75)⟩,
    ⟨(some 77), 1232, none, .fa 0 (.t 5)⟩,
    ⟨none, 0, none, .st 1 (.t 77) (.t 70)⟩,
    ⟨(some 78), 1248, none, .fa 2 (.t 5)⟩,
    ⟨none, 0, none, .st 1 (.t 78) (.t 76)⟩]
    [(0, 2, 64), (0, 3, 64), (0, 4, 64), (0, 5, 64), (0, 7, 64), (0, 8, 64), (0, 9, 64), (0, 10, 64), (0, 11, 64), (1, 2, 65), (1, 3, 65), (1, 4, 65), (1, 5, 65), (1, 7, 65), (1, 8, 65), (1, 9, 65), (1, 10, 65), (1, 11, 65), (2, 7, 66), (2, 8, 66), (2, 9, 66), (2, 10, 66), (2, 11, 66), (3, 7, 67), (3, 8, 67), (3, 9, 67), (3, 10, 67), (3, 11, 67), (4, 7, 68), (4, 8, 68), (4, 9, 68), (4, 10, 68), (4, 11, 68), (5, 7, 69), (5, 8, 69), (5, 9, 69), (5, 10, 69), (5, 11, 69), (6, 7, 70), (6, 8, 70), (6, 9, 70), (6, 10, 70), (6, 11, 70), (7, 9, 71), (7, 10, 71), (7, 11, 71), (8, 9, 72), (8, 10, 72), (8, 11, 72), (9, 13, 73), (10, 13, 74), (11, 13, 75), (12, 13, 76)])))))))
  (.reg [⟨(some 79), 1264, none, .bi false .add (.t 18) (.c (.int .i64 1))⟩,
    ⟨(some 18), 288, none, .mv (.t 79)⟩]))))
def c15 : C := (.seq (.reg [⟨(some 2), 32, none, .al [(.nil 1), (.nil 1), (.nil 1)]⟩,
    ⟨(some 3), 48, none, .mv (.c (.int .i64 0))⟩,
    ⟨(some 4), 64, none, .mv (.c (.int .i64 0))⟩])
  (.seq (.reg [⟨(some 5), 80, none, .al [(.nil 1), (.nil 1), (.nil 1)]⟩])
  (.seq (.reg [⟨(some 14), 224, none, .mv (.t 0)⟩,
    ⟨(some 15), 240, none, .call (.c (.fn (.func 32) [] [])) [(.t 14), (.c (.str [10]))]⟩,
    ⟨(some 6), 96, none, .mv (.t 15)⟩])
  (.seq (.seq (.reg [⟨(some 16), 256, none, .mv (.t 6)⟩,
    ⟨(some 17), 272, none, .len (.t 16)⟩,
    ⟨(some 18), 288, none, .mv (.c (.int .i64 0))⟩])
  (.block 0 (.loop c15L1)))
  (.seq (.seq (.reg [⟨(some 80), 1280, none, .ld 3 true (.t 5)⟩,
    ⟨(some 81), 1296, none, .call (.c (.fn (.func 23) [] [])) [(.t 80)]⟩,
    ⟨(some 13), 208, none, .mv (.t 81)⟩])
  (.seq (.reg [⟨(some 82), 1312, none, .mv (.t 13)⟩,
    ⟨(some 83), 1328, none, .bi false .neq (.t 82) (.c (.int .i64 0))⟩])
  (.cond (.t 83) (.seq (.reg [⟨(some 84), 1344, none, .ld 3 true (.t 5)⟩,
    ⟨(some 85), 1360, none, .mv (.t 13)⟩,
    ⟨none, 0, none, .st 3 (.t 2) (.t 84)⟩,
    ⟨(some 3), 48, none, .mv (.c (.int .i64 0))⟩,
    ⟨(some 4), 64, none, .mv (.t 85)⟩])
  .ret) .skip)))
  (.seq (.reg [⟨(some 86), 1376, none, .ld 3 true (.t 5)⟩,
    ⟨none, 0, none, .st 3 (.t 2) (.t 86)⟩,
    ⟨(some 3), 48, none, .mv (.c (.int .i64 0))⟩,
    ⟨(some 4), 64, none, .mv (.c (.int .i64 0))⟩])
  .ret))))))
theorem fits15 : fits Tryd.prog false Tryd.f15 1 87 [(2, some (3, true)), (3, none), (4, none)] = some c15.er := by kernel_rfl

theorem cond2 {n : Nat} {s : List UInt8} {b : Bool} (h : (bif !(s == []) then true else ((n : Int) == 0)) = b) : (n + 1 = 1 ∨ s ≠ []) ↔ b = true := by
  subst h
  cases hs : (s == []) with
  | true =>
    have e : s = [] := eq_of_beq hs
    subst e
    have : ((n : Int) == 0) = true ↔ n = 0 := by rw [beq_iff_eq]; omega
    simp only [Bool.not_true, cond_false, this]
    simp
  | false =>
    have e : s ≠ [] := beq_eq_false_iff_ne.1 hs
    simp [e]
/-- What holds while lines are read. -/
structure RInv (s0 : List UInt8) (L : List (List UInt8)) (i : Nat) (t : FT) : Prop where
  lt : i < L.length
  eq : pLines (i + 1) (L.drop i) t = parseF s0
  lv : t.lv.length ≤ i
  rl : t.rel.length ≤ i
  inf : t.inf.length ≤ s0.length
  row : ∀ k, k < t.rel.length → (t.rel.getD k default).length ≤ s0.length

set_option maxRecDepth 100000 in
set_option maxHeartbeats 16000000 in
theorem call15 (s0 : List UInt8) (hs : s0.length < 4294967281) : PureCall Tryd.prog 15 [.str s0] [] ⟨.tup [.agg (eFT 0 0 (parseF s0).1), .int .i64 (parseF s0).2.1, .int .i64 (parseF s0).2.2], [], []⟩ := by
  have hpf : pLines 1 (splitC 10 s0) FT0 = parseF s0 := rfl
  refine pure_call mix Tryd.func15 fits15 rfl ?_
  conv => whnf
  refine ⟨_, fun _ => call32 s0 10 hs, ?_⟩
  have hL0 : 0 < (splitC 10 s0).length := List.length_pos_iff.2 (splitC_ne 10 s0)
  have hL1 := splitC_len 10 s0
  generalize splitC 10 s0 = L at hL0 hL1 hpf ⊢
  conv => whnf
  refine ⟨?_, ?_⟩
  · (try conv => whnf)
    (repeat' (first | exact True.intro | exact fun _ h => h | refine inR64_of ?_ ?_ | apply And.intro | refine maxLen_ge ?_)) <;> (first | omega | (dsimp only; omega) | (dsimp only [List.length_cons, List.length_nil]; omega) | (intro hg; rw [hg]; rfl) | (intro hg hh; rw [hg, hh]; rfl) | (intro hg; simp [-List.getD_eq_getElem?_getD, -Int.default_eq_zero] at hg; first | omega | (refine inR64_of ?_ ?_ <;> omega) | (constructor <;> omega)) | (simp [-List.getD_eq_getElem?_getD, -Int.default_eq_zero]; done))
  refine LSem.adoptF 80 0 1000000 3 1 1 _ rfl rfl rfl ?_
  refine LSem.adoptF 80 2 1000001 22 1 1 _ rfl rfl rfl ?_
  refine LSem.loop (n := 87) mix (α := Nat × FT) (fun x => RInv s0 L x.1 x.2)
    (fun x => [(2, .pt 32 0 0), (5, .pt 80 0 0), (6, .os 240), (16, .os 240), (17, .int .i64 L.length), (18, .int .i64 x.1)])
    (fun x => [(32, .box [.nil 1, .nil 1, .nil 1]), (80, .box [.os 1000000, .sl 0 1 x.2.inf.length (fl eInt x.2.inf), .os 1000001]), (240, .row 0 9 1 L.length (fl eStr L)), (1000000, .row 0 3 1 x.2.lv.length (fl eInt x.2.lv)), (1000001, .row 0 22 1 x.2.rel.length (fl (eIs 0) x.2.rel))])
    (fun x => L.length - x.1) (0, FT0) ?_ ?_ ?_
  · exact ⟨hL0, hpf, Nat.le_refl _, Nat.le_refl _, Nat.zero_le _, fun i hi => absurd hi (Nat.not_lt_zero _)⟩
  · refine ⟨rfl, rfl, ?_, ?_⟩
    all_goals repeat' (first | exact True.intro | refine leF_cons rfl ?_ ?_ | refine leS_cons rfl ?_ ?_ | (show PLe _ _ _ _; conv => whnf) | (show SLe _ _ _ _; conv => whnf) | (show PLeL _ _ _ _; conv => whnf) | apply And.intro | rfl | exact Nat.le_refl _ | exact fun _ _ => rfl | exact rowEq0 _ _)
    all_goals skip
  · intro x hx
    obtain ⟨i, t⟩ := x
    dsimp only at hx
    have hlt := hx.lt
    have heq := hx.eq
    have hxl := hL1.2 _ (getD_mem hlt)
    have hj : ((i : Int)).toNat = i := by omega
    have hdrop : L.drop i = L.getD i default :: L.drop (i + 1) := by
      rw [List.drop_eq_getElem_cons hlt]
      congr 1
      simp [List.getD, hlt]
    rw [hdrop] at heq
    conv => whnf
    refine ⟨trivial, fun _ => ?_, fun hc => ?_⟩
    rotate_left
    · replace hc := of_decide_eq_false hc
      have h : ¬ (i : Int) < L.length := hc
      omega
    conv => whnf
    rw [hj]
    generalize L.getD i default = one at heq hxl ⊢
    refine ⟨?_, fun hc => ?_, fun hc => ?_⟩
    · (try conv => whnf)
      (repeat' (first | exact True.intro | exact fun _ h => h | refine inR64_of ?_ ?_ | apply And.intro | refine maxLen_ge ?_)) <;> (first | omega | (dsimp only; omega) | (dsimp only [List.length_cons, List.length_nil]; omega) | (intro hg; rw [hg]; rfl) | (intro hg hh; rw [hg, hh]; rfl) | (intro hg; simp [-List.getD_eq_getElem?_getD, -Int.default_eq_zero] at hg; first | omega | (refine inR64_of ?_ ?_ <;> omega) | (constructor <;> omega)) | (simp [-List.getD_eq_getElem?_getD, -Int.default_eq_zero]; done))
    · have hlast : i + 1 = L.length := by
        have := beq_iff_eq.1 hc
        have h : (i : Int) = (L.length : Int) - 1 := this
        omega
      rw [List.drop_of_length_le (by omega)] at heq
      have heq2 : (if i + 1 = 1 ∨ one ≠ [] then (FT0, ((i + 1 : Nat) : Int), (7 : Int)) else (t, 0, checkF t)) = parseF s0 := heq
      conv => whnf
      refine ⟨?_, fun hc2 => ?_, fun hc2 => ?_⟩
      · (try conv => whnf)
        (repeat' (first | exact True.intro | exact fun _ h => h | refine inR64_of ?_ ?_ | apply And.intro | refine maxLen_ge ?_)) <;> (first | omega | (dsimp only; omega) | (dsimp only [List.length_cons, List.length_nil]; omega) | (intro hg; rw [hg]; rfl) | (intro hg hh; rw [hg, hh]; rfl) | (intro hg; simp [-List.getD_eq_getElem?_getD, -Int.default_eq_zero] at hg; first | omega | (refine inR64_of ?_ ?_ <;> omega) | (constructor <;> omega)) | (simp [-List.getD_eq_getElem?_getD, -Int.default_eq_zero]; done))
      · have h := (cond2 (n := i) (s := one) hc2).2 rfl
        rw [if_pos h] at heq2
        rw [← heq2]
        conv => whnf
        refine ⟨?_, [], ?_⟩
        · (try conv => whnf)
          (repeat' (first | exact True.intro | exact fun _ h => h | refine inR64_of ?_ ?_ | apply And.intro | refine maxLen_ge ?_)) <;> (first | omega | (dsimp only; omega) | (dsimp only [List.length_cons, List.length_nil]; omega) | (intro hg; rw [hg]; rfl) | (intro hg hh; rw [hg, hh]; rfl) | (intro hg; simp [-List.getD_eq_getElem?_getD, -Int.default_eq_zero] at hg; first | omega | (refine inR64_of ?_ ?_ <;> omega) | (constructor <;> omega)) | (simp [-List.getD_eq_getElem?_getD, -Int.default_eq_zero]; done))
        conv => whnf
        refine ⟨rfl, ?_, trivial, trivial⟩
        all_goals repeat' (first | exact True.intro | refine leF_cons rfl ?_ ?_ | refine leS_cons rfl ?_ ?_ | (show PLe _ _ _ _; conv => whnf) | (show SLe _ _ _ _; conv => whnf) | (show PLeL _ _ _ _; conv => whnf) | apply And.intro | rfl | exact Nat.le_refl _ | exact fun _ _ => rfl | exact rowEq0 _ _)
        all_goals first | omega | (show (i : Int) + 1 = ((i + 1 : Nat) : Int); omega) | skip
      · have h : ¬ (i + 1 = 1 ∨ one ≠ []) := fun h => absurd ((cond2 (n := i) (s := one) hc2).1 h) (by decide)
        rw [if_neg h] at heq2
        rw [← heq2]
        conv => whnf
        refine ⟨_, fun _ => PureCall.arg_le (call23 0 t (by have := hx.lv; omega) (by have := hx.inf; omega) (by have := hx.rl; omega) (fun k hk => by have := hx.row k hk; omega)) rfl (by
          all_goals repeat' (first | exact True.intro | refine leF_cons rfl ?_ ?_ | refine leS_cons rfl ?_ ?_ | (show PLe _ _ _ _; conv => whnf) | (show SLe _ _ _ _; conv => whnf) | (show PLeL _ _ _ _; conv => whnf) | apply And.intro | rfl | exact Nat.le_refl _ | exact fun _ _ => rfl | exact rowEq0 _ _)
          all_goals first | omega | exact (by decide) | skip), ?_⟩
        generalize checkF t = E
        conv => whnf
        refine ⟨?_, fun hc3 => ?_, fun hc3 => ?_⟩
        · (try conv => whnf)
          (repeat' (first | exact True.intro | exact fun _ h => h | refine inR64_of ?_ ?_ | apply And.intro | refine maxLen_ge ?_)) <;> (first | omega | (dsimp only; omega) | (dsimp only [List.length_cons, List.length_nil]; omega) | (intro hg; rw [hg]; rfl) | (intro hg hh; rw [hg, hh]; rfl) | (intro hg; simp [-List.getD_eq_getElem?_getD, -Int.default_eq_zero] at hg; first | omega | (refine inR64_of ?_ ?_ <;> omega) | (constructor <;> omega)) | (simp [-List.getD_eq_getElem?_getD, -Int.default_eq_zero]; done))
        · conv => whnf
          refine ⟨?_, [], ?_⟩
          · (try conv => whnf)
            (repeat' (first | exact True.intro | exact fun _ h => h | refine inR64_of ?_ ?_ | apply And.intro | refine maxLen_ge ?_)) <;> (first | omega | (dsimp only; omega) | (dsimp only [List.length_cons, List.length_nil]; omega) | (intro hg; rw [hg]; rfl) | (intro hg hh; rw [hg, hh]; rfl) | (intro hg; simp [-List.getD_eq_getElem?_getD, -Int.default_eq_zero] at hg; first | omega | (refine inR64_of ?_ ?_ <;> omega) | (constructor <;> omega)) | (simp [-List.getD_eq_getElem?_getD, -Int.default_eq_zero]; done))
          conv => whnf
          refine ⟨rfl, ?_, trivial, trivial⟩
          all_goals repeat' (first | exact True.intro | refine leF_cons rfl ?_ ?_ | refine leS_cons rfl ?_ ?_ | (show PLe _ _ _ _; conv => whnf) | (show SLe _ _ _ _; conv => whnf) | (show PLeL _ _ _ _; conv => whnf) | apply And.intro | rfl | exact Nat.le_refl _ | exact fun _ _ => rfl | exact rowEq0 _ _)
        · simp only [bif_t, bif_f, decide_eq_true_eq, decide_eq_false_iff_not, Bool.not_eq_true', Bool.not_eq_false', Bool.and_eq_true, Bool.or_eq_true, Bool.and_eq_false_iff, Bool.or_eq_false_iff, beq_iff_eq, bne_iff_ne, beq_eq_false_iff_ne, bne_eq_false_iff_eq, reduceCtorEq, false_and, and_false, true_and, and_true, or_false, false_or, or_true, true_or, not_true_eq_false, not_false_eq_true, Int.toNat_zero] at hc3
          conv => whnf
          refine ⟨?_, [], ?_⟩
          · (try conv => whnf)
            (repeat' (first | exact True.intro | exact fun _ h => h | refine inR64_of ?_ ?_ | apply And.intro | refine maxLen_ge ?_)) <;> (first | omega | (dsimp only; omega) | (dsimp only [List.length_cons, List.length_nil]; omega) | (intro hg; rw [hg]; rfl) | (intro hg hh; rw [hg, hh]; rfl) | (intro hg; simp [-List.getD_eq_getElem?_getD, -Int.default_eq_zero] at hg; first | omega | (refine inR64_of ?_ ?_ <;> omega) | (constructor <;> omega)) | (simp [-List.getD_eq_getElem?_getD, -Int.default_eq_zero]; done))
          conv => whnf
          refine ⟨rfl, ?_, trivial, trivial⟩
          all_goals repeat' (first | exact True.intro | refine leF_cons rfl ?_ ?_ | refine leS_cons rfl ?_ ?_ | (show PLe _ _ _ _; conv => whnf) | (show SLe _ _ _ _; conv => whnf) | (show PLeL _ _ _ _; conv => whnf) | apply And.intro | rfl | exact Nat.le_refl _ | exact fun _ _ => rfl | exact rowEq0 _ _)
          all_goals first | omega | (show (0 : Int) = E; omega) | skip
    · have hnl : i + 1 < L.length := by
        have h : ¬ (i : Int) = (L.length : Int) - 1 := fun e => by
          have : ((i : Int) == (L.length : Int) - 1) = true := beq_iff_eq.2 e
          have h2 : ((i : Int) == (L.length : Int) - 1) = false := hc
          rw [this] at h2; cases h2
        omega
      have hne : L.drop (i + 1) ≠ [] := fun e => by
        have := congrArg List.length e
        rw [List.length_drop, List.length_nil] at this
        omega
      have hcons := pLines_cons (n := i + 1) (x := one) (t := t) hne
      rw [heq] at hcons
      conv => whnf
      refine ⟨trivial, fun hc1 => ?_, fun hc1 => ?_⟩
      · have hn1 : i = 0 := by
          have h : ((i : Int) == 0) = true := hc1
          have := beq_iff_eq.1 h
          omega
        subst hn1
        rw [if_pos rfl] at hcons
        conv => whnf
        refine ⟨_, fun _ => call33 one wInflow (by omega), ?_⟩
        generalize hN : numbersF one wInflow = N at hcons ⊢
        cases N with
        | none =>
          conv => whnf
          refine ⟨?_, fun _ => ?_, fun h => absurd h.symm Bool.false_ne_true⟩
          · (try conv => whnf)
            (repeat' (first | exact True.intro | exact fun _ h => h | refine inR64_of ?_ ?_ | apply And.intro | refine maxLen_ge ?_)) <;> (first | omega | (dsimp only; omega) | (dsimp only [List.length_cons, List.length_nil]; omega) | (intro hg; rw [hg]; rfl) | (intro hg hh; rw [hg, hh]; rfl) | (intro hg; simp [-List.getD_eq_getElem?_getD, -Int.default_eq_zero] at hg; first | omega | (refine inR64_of ?_ ?_ <;> omega) | (constructor <;> omega)) | (simp [-List.getD_eq_getElem?_getD, -Int.default_eq_zero]; done))
          rw [hcons]
          conv => whnf
          refine ⟨?_, [], ?_⟩
          · (try conv => whnf)
            (repeat' (first | exact True.intro | exact fun _ h => h | refine inR64_of ?_ ?_ | apply And.intro | refine maxLen_ge ?_)) <;> (first | omega | (dsimp only; omega) | (dsimp only [List.length_cons, List.length_nil]; omega) | (intro hg; rw [hg]; rfl) | (intro hg hh; rw [hg, hh]; rfl) | (intro hg; simp [-List.getD_eq_getElem?_getD, -Int.default_eq_zero] at hg; first | omega | (refine inR64_of ?_ ?_ <;> omega) | (constructor <;> omega)) | (simp [-List.getD_eq_getElem?_getD, -Int.default_eq_zero]; done))
          conv => whnf
          refine ⟨rfl, ?_, trivial, trivial⟩
          all_goals repeat' (first | exact True.intro | refine leF_cons rfl ?_ ?_ | refine leS_cons rfl ?_ ?_ | (show PLe _ _ _ _; conv => whnf) | (show SLe _ _ _ _; conv => whnf) | (show PLeL _ _ _ _; conv => whnf) | apply And.intro | rfl | exact Nat.le_refl _ | exact fun _ _ => rfl | exact rowEq0 _ _)
        | some l =>
          conv => whnf
          refine ⟨?_, fun h => absurd h Bool.false_ne_true, fun _ => ?_⟩
          · (try conv => whnf)
            (repeat' (first | exact True.intro | exact fun _ h => h | refine inR64_of ?_ ?_ | apply And.intro | refine maxLen_ge ?_)) <;> (first | omega | (dsimp only; omega) | (dsimp only [List.length_cons, List.length_nil]; omega) | (intro hg; rw [hg]; rfl) | (intro hg hh; rw [hg, hh]; rfl) | (intro hg; simp [-List.getD_eq_getElem?_getD, -Int.default_eq_zero] at hg; first | omega | (refine inR64_of ?_ ?_ <;> omega) | (constructor <;> omega)) | (simp [-List.getD_eq_getElem?_getD, -Int.default_eq_zero]; done))
          dsimp only at hcons
          have hl := numbersF_len hN
          conv => whnf
          refine ⟨?_, (1, ⟨t.lv, l, t.rel⟩), ⟨hnl, hcons.symm, ?_, ?_, ?_, hx.row⟩, ?_, rfl, rfl, ?_, ?_⟩
          · (try conv => whnf)
            (repeat' (first | exact True.intro | exact fun _ h => h | refine inR64_of ?_ ?_ | apply And.intro | refine maxLen_ge ?_)) <;> (first | omega | (dsimp only; omega) | (dsimp only [List.length_cons, List.length_nil]; omega) | (intro hg; rw [hg]; rfl) | (intro hg hh; rw [hg, hh]; rfl) | (intro hg; simp [-List.getD_eq_getElem?_getD, -Int.default_eq_zero] at hg; first | omega | (refine inR64_of ?_ ?_ <;> omega) | (constructor <;> omega)) | (simp [-List.getD_eq_getElem?_getD, -Int.default_eq_zero]; done))
          · have := hx.lv; dsimp only; omega
          · have := hx.rl; dsimp only; omega
          · dsimp only; omega
          · dsimp only; omega
          all_goals repeat' (first | exact True.intro | refine leF_cons rfl ?_ ?_ | refine leS_cons rfl ?_ ?_ | (show PLe _ _ _ _; conv => whnf) | (show SLe _ _ _ _; conv => whnf) | (show PLeL _ _ _ _; conv => whnf) | apply And.intro | rfl | exact Nat.le_refl _ | exact fun _ _ => rfl | exact rowEq0 _ _)
          all_goals first | omega | skip
      · have hn1 : i + 1 ≠ 1 := fun e => by
          have e2 : i = 0 := by omega
          subst e2
          have h3 : (((0 : Nat) : Int) == 0) = false := hc1
          exact absurd h3 (by decide)
        rw [if_neg hn1] at hcons
        conv => whnf
        refine ⟨_, fun _ => call33 one wLevel (by omega), ?_⟩
        generalize hN : numbersF one wLevel = N at hcons ⊢
        cases N with
        | none =>
          conv => whnf
          refine ⟨?_, fun _ => ?_, fun h => absurd h.symm Bool.false_ne_true⟩
          · (try conv => whnf)
            (repeat' (first | exact True.intro | exact fun _ h => h | refine inR64_of ?_ ?_ | apply And.intro | refine maxLen_ge ?_)) <;> (first | omega | (dsimp only; omega) | (dsimp only [List.length_cons, List.length_nil]; omega) | (intro hg; rw [hg]; rfl) | (intro hg hh; rw [hg, hh]; rfl) | (intro hg; simp [-List.getD_eq_getElem?_getD, -Int.default_eq_zero] at hg; first | omega | (refine inR64_of ?_ ?_ <;> omega) | (constructor <;> omega)) | (simp [-List.getD_eq_getElem?_getD, -Int.default_eq_zero]; done))
          rw [hcons]
          conv => whnf
          refine ⟨?_, [], ?_⟩
          · (try conv => whnf)
            (repeat' (first | exact True.intro | exact fun _ h => h | refine inR64_of ?_ ?_ | apply And.intro | refine maxLen_ge ?_)) <;> (first | omega | (dsimp only; omega) | (dsimp only [List.length_cons, List.length_nil]; omega) | (intro hg; rw [hg]; rfl) | (intro hg hh; rw [hg, hh]; rfl) | (intro hg; simp [-List.getD_eq_getElem?_getD, -Int.default_eq_zero] at hg; first | omega | (refine inR64_of ?_ ?_ <;> omega) | (constructor <;> omega)) | (simp [-List.getD_eq_getElem?_getD, -Int.default_eq_zero]; done))
          conv => whnf
          refine ⟨rfl, ?_, trivial, trivial⟩
          all_goals repeat' (first | exact True.intro | refine leF_cons rfl ?_ ?_ | refine leS_cons rfl ?_ ?_ | (show PLe _ _ _ _; conv => whnf) | (show SLe _ _ _ _; conv => whnf) | (show PLeL _ _ _ _; conv => whnf) | apply And.intro | rfl | exact Nat.le_refl _ | exact fun _ _ => rfl | exact rowEq0 _ _)
          all_goals first | omega | (show (i : Int) + 1 = ((i + 1 : Nat) : Int); omega) | skip
        | some l0 =>
          cases l0 with
          | nil =>
            conv => whnf
            refine ⟨?_, fun _ => ?_, fun h => absurd h.symm Bool.false_ne_true⟩
            · (try conv => whnf)
              (repeat' (first | exact True.intro | exact fun _ h => h | refine inR64_of ?_ ?_ | apply And.intro | refine maxLen_ge ?_)) <;> (first | omega | (dsimp only; omega) | (dsimp only [List.length_cons, List.length_nil]; omega) | (intro hg; rw [hg]; rfl) | (intro hg hh; rw [hg, hh]; rfl) | (intro hg; simp [-List.getD_eq_getElem?_getD, -Int.default_eq_zero] at hg; first | omega | (refine inR64_of ?_ ?_ <;> omega) | (constructor <;> omega)) | (simp [-List.getD_eq_getElem?_getD, -Int.default_eq_zero]; done))
            rw [hcons]
            conv => whnf
            refine ⟨?_, [], ?_⟩
            · (try conv => whnf)
              (repeat' (first | exact True.intro | exact fun _ h => h | refine inR64_of ?_ ?_ | apply And.intro | refine maxLen_ge ?_)) <;> (first | omega | (dsimp only; omega) | (dsimp only [List.length_cons, List.length_nil]; omega) | (intro hg; rw [hg]; rfl) | (intro hg hh; rw [hg, hh]; rfl) | (intro hg; simp [-List.getD_eq_getElem?_getD, -Int.default_eq_zero] at hg; first | omega | (refine inR64_of ?_ ?_ <;> omega) | (constructor <;> omega)) | (simp [-List.getD_eq_getElem?_getD, -Int.default_eq_zero]; done))
            conv => whnf
            refine ⟨rfl, ?_, trivial, trivial⟩
            all_goals repeat' (first | exact True.intro | refine leF_cons rfl ?_ ?_ | refine leS_cons rfl ?_ ?_ | (show PLe _ _ _ _; conv => whnf) | (show SLe _ _ _ _; conv => whnf) | (show PLeL _ _ _ _; conv => whnf) | apply And.intro | rfl | exact Nat.le_refl _ | exact fun _ _ => rfl | exact rowEq0 _ _)
            all_goals first | omega | (show (i : Int) + 1 = ((i + 1 : Nat) : Int); omega) | skip
          | cons a l =>
            have hl := numbersF_len hN
            rw [List.length_cons] at hl
            dsimp only at hcons
            conv => whnf
            refine ⟨?_, fun h => ?_, fun _ => ?_⟩
            · (try conv => whnf)
              (repeat' (first | exact True.intro | exact fun _ h => h | refine inR64_of ?_ ?_ | apply And.intro | refine maxLen_ge ?_)) <;> (first | omega | (dsimp only; omega) | (dsimp only [List.length_cons, List.length_nil]; omega) | (intro hg; rw [hg]; rfl) | (intro hg hh; rw [hg, hh]; rfl) | (intro hg; simp [-List.getD_eq_getElem?_getD, -Int.default_eq_zero] at hg; first | omega | (refine inR64_of ?_ ?_ <;> omega) | (constructor <;> omega)) | (simp [-List.getD_eq_getElem?_getD, -Int.default_eq_zero]; done))
            · have h2 : decide (((a :: l).length : Int) < 1) = true := h
              have h4 := of_decide_eq_true h2
              rw [List.length_cons] at h4
              omega
            conv => whnf
            refine ⟨rfl, ?_⟩
            conv => whnf
            have q1 := fl_push eInt t.lv a
            have q2 := fl_push (eIs 0) t.rel l
            have ef : (fun k => fl eInt (a :: l) (1 + k)) = fl eInt l := by
              funext k
              unfold fl
              rw [Nat.add_comm 1 k]; rfl
            refine ⟨?_, (i + 1, ⟨t.lv ++ [a], t.inf, t.rel ++ [l]⟩), ⟨hnl, hcons.symm, ?_, ?_, hx.inf, ?_⟩, ?_, rfl, rfl, ?_, ?_⟩
            · have hlv := hx.lv
              have hrl := hx.rl
              (try conv => whnf)
              (repeat' (first | exact True.intro | exact fun _ h => h | refine inR64_of ?_ ?_ | apply And.intro | refine maxLen_ge ?_))
              all_goals (try dsimp only [List.length_cons, List.length_nil, Option.getD])
              all_goals first | omega | (show _ ≤ _; simp only [List.length_cons, List.length_nil]; omega) | skip
            · have := hx.lv; dsimp only; rw [List.length_append]; exact Nat.add_le_add_right this 1
            · have := hx.rl; dsimp only; rw [List.length_append]; exact Nat.add_le_add_right this 1
            · intro k hk
              dsimp only at hk ⊢
              rw [List.length_append, List.length_cons, List.length_nil] at hk
              by_cases hi2 : k < t.rel.length
              · have := hx.row k hi2
                rw [List.getD_eq_getElem?_getD] at this ⊢
                rw [List.getElem?_append_left hi2]; exact this
              · have hi3 : k = t.rel.length := by omega
                subst hi3
                rw [List.getD_eq_getElem?_getD, List.getElem?_append_right (Nat.le_refl _), Nat.sub_self]
                show l.length ≤ _
                omega
            · dsimp only; omega
            all_goals repeat' (first | exact True.intro | refine leF_cons rfl ?_ ?_ | refine leS_cons rfl ?_ ?_ | (show PLe _ _ _ _; conv => whnf) | (show SLe _ _ _ _; conv => whnf) | (show PLeL _ _ _ _; conv => whnf) | apply And.intro | rfl | exact Nat.le_refl _ | exact fun _ _ => rfl | exact rowEq0 _ _)
            all_goals first | omega | exact q1 | (show RowEq (t.rel.length + 1) (appF t.rel.length (fl (eIs 0) t.rel) (fun i => [[PV.sl 0 1 l.length (fun k => fl eInt (a :: l) (1 + k))]].getD i [])) _; rw [ef]; exact q2) | (show _ + 1 = _; simp only [List.length_append, List.length_cons, List.length_nil]; done) | skip
end Pv
end Go.Proofs.YtcfcmafmdpbjoaaDoor

set_option linter.unusedSimpArgs false
set_option linter.unusedVariables false
namespace Go.Proofs.YtcfcmafmdpbjoaaDoor
namespace Pv
def c3L1 : C := (.seq (.reg [⟨(some 74), 1184, none, .bi false .lss (.t 73) (.t 72)⟩])
  (.seq (.cond (.t 74) .skip (.exit 0))
  (.seq (.block 1 (.seq (.reg [⟨(some 75), 1200, none, .ia 1 (.t 71) (.t 73)⟩,
    ⟨(some 76), 1216, none, .ld 1 false (.t 75)⟩,
    ⟨(some 16), 256, none, .mv (.t 76)⟩])
  (.seq (.reg [⟨(some 78), 1248, none, .mv (.t 16)⟩,
    ⟨(some 79), 1264, none, .call (.c (.fn (.func 14) [] [])) [(.t 78)]⟩,
    ⟨(some 77), 1232, none, .mv (.t 79)⟩,
    ⟨(some 80), 1280, none, .ex (.t 77) 0⟩,
    ⟨(some 81), 1296, none, .ex (.t 77) 1⟩,
    ⟨(some 82), 1312, none, .ex (.t 77) 2⟩,
    ⟨(some 17), 272, none, .al [(.nil 1), (.nil 1), (.nil 1)]⟩,
    ⟨none, 0, none, .st 3 (.t 17) (.t 80)⟩,
    ⟨(some 18), 288, none, .mv (.t 81)⟩,
    ⟨(some 19), 304, none, .mv (.t 82)⟩])
  (.seq (.reg [⟨(some 84), 1344, none, .mv (.t 16)⟩,
    ⟨(some 85), 1360, none, .call (.c (.fn (.func 15) [] [])) [(.t 84)]⟩,
    ⟨(some 83), 1328, none, .mv (.t 85)⟩,
    ⟨(some 86), 1376, none, .ex (.t 83) 0⟩,
    ⟨(some 87), 1392, none, .ex (.t 83) 1⟩,
    ⟨(some 88), 1408, none, .ex (.t 83) 2⟩,
    ⟨(some 20), 320, none, .al [(.nil 1), (.nil 1), (.nil 1)]⟩,
    ⟨none, 0, none, .st 3 (.t 20) (.t 86)⟩,
    ⟨(some 21), 336, none, .mv (.t 87)⟩,
    ⟨(some 22), 352, none, .mv (.t 88)⟩])
  (.seq (.reg [⟨(some 89), 1424, none, .mv (.t 19)⟩,
    ⟨(some 90), 1440, none, .mv (.t 22)⟩,
    ⟨(some 91), 1456, none, .bi false .neq (.t 89) (.t 90)⟩,
    ⟨(some 92), 1472, none, .mv (.t 91)⟩,
    ⟨(some 93), 1488, (some (92, false)), .mv (.t 18)⟩,
    ⟨(some 94), 1504, (some (92, false)), .mv (.t 21)⟩,
    ⟨(some 95), 1520, (some (92, false)), .bi false .neq (.t 93) (.t 94)⟩,
    ⟨(some 96), 1536, none, .pick (.t 92) (.c (.bool true)) (.t 95)⟩,
    ⟨(some 97), 1552, none, .mv (.t 96)⟩,
    ⟨(some 98), 1568, (some (97, false)), .ld 3 true (.t 17)⟩,
    ⟨(some 99), 1584, (some (97, false)), .ld 3 true (.t 20)⟩,
    ⟨(some 100), 1600, (some (97, false)), .call (.c (.fn (.func 16) [] [])) [(.t 98), (.t 99)]⟩,
    ⟨(some 101), 1616, (some (97, false)), .un false .not (.t 100)⟩,
    ⟨(some 102), 1632, none, .pick (.t 97) (.c (.bool true)) (.t 101)⟩])
  (.cond (.t 102) (.seq (.reg [⟨(some 10), 160, none, .mv (.c (.bool false))⟩])
  .ret) .skip))))))
  (.reg [⟨(some 103), 1648, none, .bi false .add (.t 73) (.c (.int .i64 1))⟩,
    ⟨(some 73), 1168, none, .mv (.t 103)⟩]))))
def c3 : C := (.seq (.reg [⟨(some 7), 112, none, .bx 3 (.t 2)⟩,
    ⟨(some 10), 160, none, .mv (.c (.bool false))⟩])
  (.seq (.seq (.reg [⟨(some 27), 432, none, .call (.c (.fn (.func 8) [] [])) []⟩,
    ⟨(some 28), 448, none, .un false .not (.t 27)⟩])
  (.cond (.t 28) (.seq (.reg [⟨(some 10), 160, none, .mv (.c (.bool false))⟩])
  .ret) .skip))
  (.seq (.seq (.reg [⟨(some 29), 464, none, .mv (.t 0)⟩,
    ⟨(some 30), 480, none, .call (.c (.fn (.func 9) [] [])) [(.t 29)]⟩,
    ⟨(some 31), 496, none, .un false .not (.t 30)⟩,
    ⟨(some 32), 512, none, .mv (.t 31)⟩,
    ⟨(some 33), 528, (some (32, false)), .mv (.t 1)⟩,
    ⟨(some 34), 544, (some (32, false)), .lens (.t 33)⟩,
    ⟨(some 35), 560, (some (32, false)), .bi false .gtr (.t 34) (.c (.int .i64 2000))⟩,
    ⟨(some 36), 576, none, .pick (.t 32) (.c (.bool true)) (.t 35)⟩,
    ⟨(some 37), 592, none, .mv (.t 36)⟩,
    ⟨(some 38), 608, (some (37, false)), .ld 3 true (.t 7)⟩,
    ⟨(some 39), 624, (some (37, false)), .call (.c (.fn (.func 10) [] [])) [(.t 38)]⟩,
    ⟨(some 40), 640, (some (37, false)), .un false .not (.t 39)⟩,
    ⟨(some 41), 656, none, .pick (.t 37) (.c (.bool true)) (.t 40)⟩])
  (.cond (.t 41) (.seq (.reg [⟨(some 10), 160, none, .mv (.c (.bool true))⟩])
  .ret) .skip))
  (.seq (.reg [⟨(some 42), 672, none, .mv (.t 0)⟩,
    ⟨(some 43), 688, none, .call (.c (.fn (.func 12) [] [])) [(.t 42)]⟩,
    ⟨(some 44), 704, none, .call (.c (.fn (.func 11) [] [])) [(.t 43)]⟩,
    ⟨(some 11), 176, none, .al [(.nil 1), (.nil 1), (.nil 1)]⟩,
    ⟨none, 0, none, .st 3 (.t 11) (.t 44)⟩])
  (.seq (.reg [⟨(some 46), 736, none, .ld 3 true (.t 11)⟩,
    ⟨(some 47), 752, none, .call (.c (.fn (.func 13) [] [])) [(.t 46)]⟩,
    ⟨(some 45), 720, none, .mv (.t 47)⟩,
    ⟨(some 48), 768, none, .ex (.t 45) 0⟩,
    ⟨(some 49), 784, none, .ex (.t 45) 1⟩,
    ⟨(some 12), 192, none, .mv (.t 48)⟩,
    ⟨(some 13), 208, none, .mv (.t 49)⟩])
  (.seq (.reg [⟨(some 50), 800, none, .mv (.t 12)⟩,
    ⟨(some 51), 816, none, .cvb 5 (.t 50)⟩,
    ⟨(some 14), 224, none, .mv (.t 51)⟩])
  (.seq (.reg [⟨(some 52), 832, none, .mv (.t 14)⟩,
    ⟨(some 53), 848, none, .mv (.t 3)⟩,
    ⟨(some 54), 864, none, .cv false .i64 (.t 53)⟩,
    ⟨(some 55), 880, none, .mv (.t 14)⟩,
    ⟨(some 56), 896, none, .len (.t 55)⟩,
    ⟨(some 57), 912, none, .bi false .rem (.t 54) (.t 56)⟩,
    ⟨(some 58), 928, none, .mv (.t 4)⟩,
    ⟨(some 59), 944, none, .ia 1 (.t 52) (.t 57)⟩,
    ⟨none, 0, none, .st 1 (.t 59) (.t 58)⟩])
  (.seq (.seq (.drw [⟨(some 60), 960, none, .mv (.t 1)⟩,
    ⟨(some 61), 976, none, .mv (.t 12)⟩,
    ⟨(some 62), 992, none, .mv (.t 14)⟩,
    ⟨(some 63), 1008, none, .cvs (.t 62)⟩,
    ⟨(some 64), 1024, none, .mv (.t 12)⟩,
    ⟨(some 65), 1040, none, .mv (.t 3)⟩,
    ⟨(some 66), 1056, none, .cv false .i64 (.t 65)⟩,
    ⟨(some 67), 1072, none, .mv (.t 12)⟩,
    ⟨(some 68), 1088, none, .lens (.t 67)⟩,
    ⟨(some 69), 1104, none, .bi false .rem (.t 66) (.t 68)⟩,
    ⟨(some 70), 1120, none, .slcs (.t 64) none (some (.t 69))⟩,
    ⟨(some 71), 1136, none, .bs 9 1 [(.t 60), (.t 61), (.t 63), (.t 70)]⟩,
    ⟨(some 72), 1152, none, .len (.t 71)⟩,
    ⟨(some 73), 1168, none, .mv (.c (.int .i64 0))⟩]
    [(0, 1, 60), (0, 2, 60), (0, 3, 60), (0, 4, 60), (0, 5, 60), (0, 6, 60), (0, 7, 60), (0, 8, 60), (0, 9, 60), (0, 10, 60), (0, 13, 60), (1, 2, 61), (1, 3, 61), (1, 4, 61), (1, 5, 61), (1, 6, 61), (1, 7, 61), (1, 8, 61), (1, 9, 61), (1, 10, 61), (1, 13, 61), (2, 4, 62), (2, 5, 62), (2, 6, 62), (2, 7, 62), (2, 8, 62), (2, 9, 62), (2, 10, 62), (2, 13, 62), (3, 4, 63), (3, 5, 63), (3, 6, 63), (3, 7, 63), (3, 8, 63), (3, 9, 63), (3, 10, 63), (3, 13, 63), (4, 5, 64), (4, 6, 64), (4, 7, 64), (4, 8, 64), (4, 9, 64), (4, 13, 64), (5, 7, 65), (5, 8, 65), (5, 13, 65), (6, 7, 66), (6, 8, 66), (6, 13, 66), (7, 13, 67), (8, 13, 68), (9, 13, 69), (10, 13, 70), (11, 13, 71), (12, 13, 72)])
  (.block 0 (.loop c3L1)))
  (.seq (.reg [⟨(some 105), 1680, none, .ld 3 true (.t 7)⟩,
    ⟨(some 106), 1696, none, .call (.c (.fn (.func 17) [] [])) [(.t 105)]⟩,
    ⟨(some 104), 1664, none, .mv (.t 106)⟩,
    ⟨(some 107), 1712, none, .ex (.t 104) 0⟩,
    ⟨(some 108), 1728, none, .ex (.t 104) 1⟩,
    ⟨(some 23), 368, none, .mv (.t 107)⟩,
    ⟨(some 24), 384, none, .mv (.t 108)⟩])
  (.seq (.reg [⟨(some 110), 1760, none, .ld 3 true (.t 7)⟩,
    ⟨(some 111), 1776, none, .call (.c (.fn (.func 13) [] [])) [(.t 110)]⟩,
    ⟨(some 109), 1744, none, .mv (.t 111)⟩,
    ⟨(some 112), 1792, none, .ex (.t 109) 0⟩,
    ⟨(some 113), 1808, none, .ex (.t 109) 1⟩,
    ⟨(some 25), 400, none, .mv (.t 112)⟩,
    ⟨(some 26), 416, none, .mv (.t 113)⟩])
  (.seq (.reg [⟨(some 114), 1824, none, .mv (.t 24)⟩,
    ⟨(some 115), 1840, none, .mv (.t 26)⟩,
    ⟨(some 116), 1856, none, .bi false .eql (.t 114) (.t 115)⟩,
    ⟨(some 117), 1872, none, .mv (.t 116)⟩,
    ⟨(some 118), 1888, (some (117, true)), .mv (.t 23)⟩,
    ⟨(some 119), 1904, (some (117, true)), .mv (.t 25)⟩,
    ⟨(some 120), 1920, (some (117, true)), .bi false .eql (.t 118) (.t 119)⟩,
    ⟨(some 121), 1936, none, .pick (.t 117) (.t 120) (.c (.bool false))⟩,
    ⟨(some 10), 160, none, .mv (.t 121)⟩])
  .ret)))))))))))
theorem fits3 : fits Tryd.prog false Tryd.f3 5 122 [(10, none)] = some c3.er := by kernel_rfl

theorem strOf_len (n : Nat) (f : Nat → List PV) : (strOf n f).length = n := by simp [strOf]
/-- A text's bytes, one of them changed, are bytes. -/
theorem areBytes_set {s : List UInt8} {i : Nat} {n : Int} (h : 0 ≤ n ∧ n ≤ 255) :
    areBytes s.length (fun k => if k = i then setAt [PV.int .u8 ((s.getD i 0).toNat : Int)] 0 [.int .u8 n] else [.int .u8 ((s.getD k 0).toNat : Int)]) := fun k _ => by
  by_cases e : k = i
  · refine ⟨UInt8.ofNat n.toNat, ?_⟩
    dsimp only
    rw [if_pos e]
    have : (UInt8.ofNat n.toNat).toNat = n.toNat := by
      rw [UInt8.toNat_ofNat']; omega
    rw [this]
    have : ((n.toNat : Nat) : Int) = n := by omega
    rw [this]; rfl
  · exact ⟨s.getD k 0, by dsimp only; rw [if_neg e]⟩
theorem rowEq4 {α : Type} [Inhabited α] {e : α → List PV} {a b c d : α} {f : Nat → List PV} (h0 : f 0 = e a) (h1 : f 1 = e b) (h2 : f 2 = e c) (h3 : f 3 = e d) : RowEq 4 f (fl e [a, b, c, d]) := fun i hi => by
  match i, hi with
  | 0, _ => exact h0
  | 1, _ => exact h1
  | 2, _ => exact h2
  | 3, _ => exact h3
/-- Numbers of everything in a table are within bounds. -/
structure LensOK (t : FT) (M N : Nat) : Prop where
  lv : t.lv.length ≤ M
  rel : t.rel.length ≤ M
  inf : t.inf.length ≤ N
  row : ∀ i, i < t.rel.length → (t.rel.getD i default).length ≤ N
theorem LensOK.zero (M N : Nat) : LensOK FT0 M N := ⟨Nat.zero_le _, Nat.zero_le _, Nat.zero_le _, fun i hi => absurd hi (Nat.not_lt_zero i)⟩
theorem LensOK.mono {t : FT} {M M' N : Nat} (h : LensOK t M N) (hm : M ≤ M') : LensOK t M' N := ⟨Nat.le_trans h.lv hm, Nat.le_trans h.rel hm, h.inf, h.row⟩
theorem pLines_lens (N : Nat) : ∀ (L : List (List UInt8)) (n : Nat) (t : FT) (M : Nat), (∀ x ∈ L, x.length ≤ N) → LensOK t M N → LensOK (pLines n L t).1 (M + L.length) N
  | [], n, t, M, hx, h => h
  | x :: r, n, t, M, hx, h => by
    by_cases hr : r = []
    · subst hr
      show LensOK (if n = 1 ∨ x ≠ [] then (FT0, (n : Int), (7 : Int)) else (t, 0, checkF t)).1 _ _
      split
      · exact .zero _ _
      · exact h.mono (Nat.le_add_right _ _)
    · rw [pLines_cons hr]
      split
      · cases hN : numbersF x wInflow with
        | none => exact .zero _ _
        | some l =>
          have hl := numbersF_len hN
          have h0 := hx x (List.mem_cons_self ..)
          have := pLines_lens N r 2 ⟨t.lv, l, t.rel⟩ M (fun y hy => hx y (List.mem_cons_of_mem _ hy)) ⟨h.lv, h.rel, by show l.length ≤ N; omega, h.row⟩
          exact this.mono (by simp only [List.length_cons]; omega)
      · cases hN : numbersF x wLevel with
        | none => exact .zero _ _
        | some l =>
          cases l with
          | nil => exact .zero _ _
          | cons a l =>
            have hl := numbersF_len hN
            have h0 := hx x (List.mem_cons_self ..)
            simp only [List.length_cons] at hl
            have h1 := h.lv
            have h2 := h.rel
            have := pLines_lens N r (n + 1) ⟨t.lv ++ [a], t.inf, t.rel ++ [l]⟩ (M + 1) (fun y hy => hx y (List.mem_cons_of_mem _ hy)) ⟨by show (t.lv ++ [a]).length ≤ _; rw [List.length_append]; exact Nat.add_le_add_right h1 1, by show (t.rel ++ [l]).length ≤ _; rw [List.length_append]; exact Nat.add_le_add_right h2 1, h.inf, fun i hi => by
              show ((t.rel ++ [l]).getD i default).length ≤ N
              by_cases e : i < t.rel.length
              · rw [List.getD, List.getElem?_append_left e]
                exact h.row i e
              · have hi' : i < (t.rel ++ [l]).length := hi
                rw [List.length_append] at hi'
                have e2 : i = t.rel.length := by simp at hi'; omega
                subst e2
                rw [List.getD, List.getElem?_append_right (Nat.le_refl _)]
                simp; omega⟩
            exact this.mono (by simp only [List.length_cons]; omega)
/-- What a text stands for has no more of anything than the text has bytes. -/
theorem parse_lens (s : List UInt8) (h : s.length ≤ 4294967280) : (parseF s).1.lv.length ≤ 4611686018427387904 ∧ (parseF s).1.inf.length ≤ 4611686018427387904 ∧ (parseF s).1.rel.length ≤ 4611686018427387904 ∧ ∀ i, i < (parseF s).1.rel.length → ((parseF s).1.rel.getD i default).length ≤ 4611686018427387904 := by
  obtain ⟨h1, h2⟩ := splitC_len 10 s
  have := pLines_lens s.length (splitC 10 s) 1 FT0 0 h2 (.zero _ _)
  have a := this.lv
  have b := this.rel
  have c := this.inf
  refine ⟨by unfold parseF; omega, by unfold parseF; omega, by unfold parseF; omega, fun i hi => ?_⟩
  have := this.row i hi
  unfold parseF; omega
theorem body_pos (t : FT) : 0 < (bodyT t).length := by
  unfold bodyT lineF
  simp only [List.length_append, List.length_cons]
  omega

set_option maxRecDepth 100000 in
set_option maxHeartbeats 16000000 in
theorem call3 (l : List Int) (s : List UInt8) (raw : FT) (at_ by_ : Int) (h1 : 0 ≤ at_ ∧ at_ ≤ 255) (h2 : 0 ≤ by_ ∧ by_ ≤ 255)
    (r1 : raw.lv.length ≤ 4611686018427387904) (r2 : raw.inf.length ≤ 4611686018427387904) (r3 : raw.rel.length ≤ 4611686018427387904) (r4 : ∀ i, i < raw.rel.length → (raw.rel.getD i default).length ≤ 4611686018427387904) :
    PureCall Tryd.prog 3 [.sl 1 1 l.length (fl eInt l), .str s, .agg (eFT 1 1 raw), .int .u8 at_, .int .u8 by_] [] ⟨.bool true, [], []⟩ := by
  refine pure_call mix Tryd.func3 fits3 rfl ?_
  conv => whnf
  refine ⟨_, fun _ => call8, ?_⟩
  conv => whnf
  refine ⟨?_, fun h => absurd h Bool.false_ne_true, fun _ => ?_⟩
  · (try conv => whnf)
    (repeat' (first | exact True.intro | exact fun _ h => h | refine inR64_of ?_ ?_ | apply And.intro | refine maxLen_ge ?_)) <;> (first | omega | (dsimp only; omega) | (dsimp only [List.length_cons, List.length_nil]; omega) | (intro hg; rw [hg]; rfl) | (intro hg hh; rw [hg, hh]; rfl) | (intro hg; simp [-List.getD_eq_getElem?_getD, -Int.default_eq_zero] at hg; first | omega | (refine inR64_of ?_ ?_ <;> omega) | (constructor <;> omega)) | (simp [-List.getD_eq_getElem?_getD, -Int.default_eq_zero]; done))
  conv => whnf
  refine ⟨_, fun _ => call9 1 l, ?_⟩
  conv => whnf
  refine ⟨_, fun _ => PureCall.arg_le (call10 1 raw r3) rfl (by
    all_goals repeat' (first | exact True.intro | refine leF_cons rfl ?_ ?_ | refine leS_cons rfl ?_ ?_ | (show PLe _ _ _ _; conv => whnf) | (show SLe _ _ _ _; conv => whnf) | (show PLeL _ _ _ _; conv => whnf) | apply And.intro | rfl | exact Nat.le_refl _ | exact fun _ _ => rfl | exact rowEq0 _ _)
    all_goals first | omega | exact (by decide) | skip), ?_⟩
  conv => whnf
  refine ⟨?_, fun hc => ?_, fun hc => ?_⟩
  · (try conv => whnf)
    (repeat' (first | exact True.intro | exact fun _ h => h | refine inR64_of ?_ ?_ | apply And.intro | refine maxLen_ge ?_)) <;> (first | omega | (dsimp only; omega) | (dsimp only [List.length_cons, List.length_nil]; omega) | (intro hg; rw [hg]; rfl) | (intro hg hh; rw [hg, hh]; rfl) | (intro hg; simp [-List.getD_eq_getElem?_getD, -Int.default_eq_zero] at hg; first | omega | (refine inR64_of ?_ ?_ <;> omega) | (constructor <;> omega)) | (simp [-List.getD_eq_getElem?_getD, -Int.default_eq_zero]; done))
  · conv => whnf
    refine ⟨?_, [], ?_⟩
    · (try conv => whnf)
      (repeat' (first | exact True.intro | exact fun _ h => h | refine inR64_of ?_ ?_ | apply And.intro | refine maxLen_ge ?_)) <;> (first | omega | (dsimp only; omega) | (dsimp only [List.length_cons, List.length_nil]; omega) | (intro hg; rw [hg]; rfl) | (intro hg hh; rw [hg, hh]; rfl) | (intro hg; simp [-List.getD_eq_getElem?_getD, -Int.default_eq_zero] at hg; first | omega | (refine inR64_of ?_ ?_ <;> omega) | (constructor <;> omega)) | (simp [-List.getD_eq_getElem?_getD, -Int.default_eq_zero]; done))
    conv => whnf
    refine ⟨rfl, ?_, trivial, trivial⟩
    all_goals repeat' (first | exact True.intro | refine leF_cons rfl ?_ ?_ | refine leS_cons rfl ?_ ?_ | (show PLe _ _ _ _; conv => whnf) | (show SLe _ _ _ _; conv => whnf) | (show PLeL _ _ _ _; conv => whnf) | apply And.intro | rfl | exact Nat.le_refl _ | exact fun _ _ => rfl | exact rowEq0 _ _)
  simp only [bif_t, bif_f, decide_eq_true_eq, decide_eq_false_iff_not, Bool.not_eq_true', Bool.not_eq_false', Bool.and_eq_true, Bool.or_eq_true, Bool.and_eq_false_iff, Bool.or_eq_false_iff, beq_iff_eq, bne_iff_ne, beq_eq_false_iff_ne, bne_eq_false_iff_eq, reduceCtorEq, false_and, and_false, true_and, and_true, or_false, false_or, or_true, true_or, not_true_eq_false, not_false_eq_true, Int.toNat_zero] at hc
  conv => whnf
  refine ⟨_, fun _ => call_new 1 l, ?_⟩
  conv => whnf
  refine ⟨_, fun _ => call11 ⟨l, 0⟩ (by dsimp only; omega), ?_⟩
  have ha0 := tab_ok ⟨l, 0⟩
  generalize (tabF ⟨l, 0⟩).2 = D
  generalize (tabF ⟨l, 0⟩).1 = a at ha0 ⊢
  have ha := check_ok ha0
  have a1 := ha.l1
  have a2 := ha.l2
  have a3 := ha.l3
  have a4 := tab_rows ha
  conv => whnf
  refine ⟨_, fun _ => PureCall.arg_le (call13 0 a (by omega) (by omega) (by omega) a4) rfl (by
    all_goals repeat' (first | exact True.intro | refine leF_cons rfl ?_ ?_ | refine leS_cons rfl ?_ ?_ | (show PLe _ _ _ _; conv => whnf) | (show SLe _ _ _ _; conv => whnf) | (show PLeL _ _ _ _; conv => whnf) | apply And.intro | rfl | exact Nat.le_refl _ | exact fun _ _ => rfl | exact rowEq0 _ _)
    all_goals first | omega | exact (by decide) | skip), ?_⟩
  rw [format_ok ha0]
  have hwp := body_pos a
  have hwl := body_len ha
  generalize bodyT a = w at hwp hwl ⊢
  conv => whnf
  refine ⟨rfl, ?_⟩
  have hw0 : (0 : Int) < (w.length : Int) := by omega
  have hm1 : 0 ≤ at_.tmod (w.length : Int) := Int.tmod_nonneg _ h1.1
  have hm2 : at_.tmod (w.length : Int) < (w.length : Int) := Int.tmod_lt_of_pos _ hw0
  obtain ⟨X, hX⟩ : ∃ X, X = strOf w.length (fun k => if k = (at_.tmod (w.length : Int)).toNat then setAt [PV.int .u8 ((w.getD (at_.tmod (w.length : Int)).toNat 0).toNat : Int)] 0 [.int .u8 by_] else [.int .u8 ((w.getD k 0).toNat : Int)]) := ⟨_, rfl⟩
  have hXl : X.length = w.length := by rw [hX, strOf_len]
  obtain ⟨L, hL⟩ : ∃ L, L = [s, w, X, w.take (at_.tmod (w.length : Int)).toNat] := ⟨_, rfl⟩
  have hLb : ∀ i, i < 4 → (L.getD i default).length ≤ 30000 := fun i hi => by
    rw [hL]
    match i, hi with
    | 0, _ => show s.length ≤ _; omega
    | 1, _ => exact hwl
    | 2, _ => show X.length ≤ _; omega
    | 3, _ => show (w.take _).length ≤ _; rw [List.length_take]; omega
  conv => whnf
  refine ⟨?_, ?_⟩
  · (try conv => whnf)
    (repeat' (first | exact True.intro | exact areBytes_set h2 | exact fun _ h => h | refine inR64_of ?_ ?_ | apply And.intro | refine maxLen_ge ?_)) <;> (first | omega | (dsimp only; omega) | (dsimp only [List.length_cons, List.length_nil]; omega))
  refine LSem.loop (n := 122) mix (α := Nat) (fun i => i ≤ 4)
    (fun i => [(7, .pt 112 0 0), (71, .os 1136), (72, .int .i64 4), (73, .int .i64 i)])
    (fun i => [(112, .box (eFT 1 1 raw)), (1136, .row 0 9 1 4 (fl eStr L))]) (fun i => 4 - i) 0 ?_ ?_ ?_
  · exact Nat.zero_le _
  · refine ⟨rfl, rfl, ?_, ?_⟩
    all_goals repeat' (first | exact True.intro | refine leF_cons rfl ?_ ?_ | refine leS_cons rfl ?_ ?_ | (show PLe _ _ _ _; conv => whnf) | (show SLe _ _ _ _; conv => whnf) | (show PLeL _ _ _ _; conv => whnf) | apply And.intro | rfl | exact Nat.le_refl _ | exact fun _ _ => rfl | exact rowEq0 _ _)
    all_goals first | (rw [hL]; exact rowEq4 rfl rfl (by rw [hX]; rfl) rfl) | skip
  · intro i hi
    have hji : ((i : Int)).toNat = i := by omega
    conv => whnf
    refine ⟨trivial, fun hc2 => ?_, fun hc2 => ?_⟩
    · replace hc2 := of_decide_eq_true hc2
      have hlt : i < 4 := by
        have h : (i : Int) < 4 := hc2
        omega
      have hb := hLb i hlt
      conv => whnf
      rw [hji]
      generalize L.getD i default = v at hb ⊢
      refine ⟨_, fun _ => call14 v (by omega), ?_⟩
      conv => whnf
      refine ⟨_, fun _ => call15 v (by omega), ?_⟩
      have hbt := parse_lens v (by omega)
      generalize parseF v = R at hbt ⊢
      obtain ⟨b1, b2, b3, b4⟩ := hbt
      conv => whnf
      refine ⟨_, fun _ => PureCall.arg_le (call16 0 0 R.1 R.1 b1 b2 b3 b4) rfl (by
        all_goals repeat' (first | exact True.intro | refine leF_cons rfl ?_ ?_ | refine leS_cons rfl ?_ ?_ | (show PLe _ _ _ _; conv => whnf) | (show SLe _ _ _ _; conv => whnf) | (show PLeL _ _ _ _; conv => whnf) | apply And.intro | rfl | exact Nat.le_refl _ | exact fun _ _ => rfl | exact rowEq0 _ _)
        all_goals first | omega | exact (by decide) | skip), ?_⟩
      rw [same_iff.2 rfl]
      conv => whnf
      refine ⟨?_, fun h => ?_, fun _ => ?_⟩
      · (try conv => whnf)
        (repeat' (first | exact True.intro | exact fun _ h => h | refine inR64_of ?_ ?_ | apply And.intro | refine maxLen_ge ?_)) <;> (first | omega | (dsimp only; omega) | (dsimp only [List.length_cons, List.length_nil]; omega) | (intro hg; rw [hg]; rfl) | (intro hg hh; rw [hg, hh]; rfl) | (intro hg; simp [-List.getD_eq_getElem?_getD, -Int.default_eq_zero] at hg; first | omega | (refine inR64_of ?_ ?_ <;> omega) | (constructor <;> omega)) | (simp [-List.getD_eq_getElem?_getD, -Int.default_eq_zero]; done))
      · exfalso
        revert h
        simp
      conv => whnf
      refine ⟨?_, i + 1, hlt, ?_, rfl, rfl, ?_, ?_⟩
      · (try conv => whnf)
        (repeat' (first | exact True.intro | exact fun _ h => h | refine inR64_of ?_ ?_ | apply And.intro | refine maxLen_ge ?_)) <;> (first | omega | (dsimp only; omega) | (dsimp only [List.length_cons, List.length_nil]; omega) | (intro hg; rw [hg]; rfl) | (intro hg hh; rw [hg, hh]; rfl) | (intro hg; simp [-List.getD_eq_getElem?_getD, -Int.default_eq_zero] at hg; first | omega | (refine inR64_of ?_ ?_ <;> omega) | (constructor <;> omega)) | (simp [-List.getD_eq_getElem?_getD, -Int.default_eq_zero]; done))
      · omega
      all_goals repeat' (first | exact True.intro | refine leF_cons rfl ?_ ?_ | refine leS_cons rfl ?_ ?_ | (show PLe _ _ _ _; conv => whnf) | (show SLe _ _ _ _; conv => whnf) | (show PLeL _ _ _ _; conv => whnf) | apply And.intro | rfl | exact Nat.le_refl _ | exact fun _ _ => rfl | exact rowEq0 _ _)
      all_goals first | omega | skip
    · replace hc2 := of_decide_eq_false hc2
      conv => whnf
      refine ⟨_, fun _ => PureCall.arg_le (call17 1 raw r1 r2 r3 r4) rfl (by
        all_goals repeat' (first | exact True.intro | refine leF_cons rfl ?_ ?_ | refine leS_cons rfl ?_ ?_ | (show PLe _ _ _ _; conv => whnf) | (show SLe _ _ _ _; conv => whnf) | (show PLeL _ _ _ _; conv => whnf) | apply And.intro | rfl | exact Nat.le_refl _ | exact fun _ _ => rfl | exact rowEq0 _ _)
        all_goals first | omega | exact (by decide) | skip), ?_⟩
      conv => whnf
      refine ⟨_, fun _ => PureCall.arg_le (call13 1 raw r1 r2 r3 r4) rfl (by
        all_goals repeat' (first | exact True.intro | refine leF_cons rfl ?_ ?_ | refine leS_cons rfl ?_ ?_ | (show PLe _ _ _ _; conv => whnf) | (show SLe _ _ _ _; conv => whnf) | (show PLeL _ _ _ _; conv => whnf) | apply And.intro | rfl | exact Nat.le_refl _ | exact fun _ _ => rfl | exact rowEq0 _ _)
        all_goals first | omega | exact (by decide) | skip), ?_⟩
      generalize formatF raw = F
      conv => whnf
      refine ⟨?_, [], ?_⟩
      · (try conv => whnf)
        (repeat' (first | exact True.intro | exact fun _ h => h | refine inR64_of ?_ ?_ | apply And.intro | refine maxLen_ge ?_)) <;> (first | omega | (dsimp only; omega) | (dsimp only [List.length_cons, List.length_nil]; omega) | (intro hg; rw [hg]; rfl) | (intro hg hh; rw [hg, hh]; rfl) | (intro hg; simp [-List.getD_eq_getElem?_getD, -Int.default_eq_zero] at hg; first | omega | (refine inR64_of ?_ ?_ <;> omega) | (constructor <;> omega)) | (simp [-List.getD_eq_getElem?_getD, -Int.default_eq_zero]; done))
      conv => whnf
      refine ⟨rfl, ?_, trivial, trivial⟩
      all_goals repeat' (first | exact True.intro | refine leF_cons rfl ?_ ?_ | refine leS_cons rfl ?_ ?_ | (show PLe _ _ _ _; conv => whnf) | (show SLe _ _ _ _; conv => whnf) | (show PLeL _ _ _ _; conv => whnf) | apply And.intro | rfl | exact Nat.le_refl _ | exact fun _ _ => rfl | exact rowEq0 _ _)
      simp
end Pv
end Go.Proofs.YtcfcmafmdpbjoaaDoor
