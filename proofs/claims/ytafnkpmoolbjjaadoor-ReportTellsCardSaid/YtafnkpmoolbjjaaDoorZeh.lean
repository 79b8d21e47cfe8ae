/- A LAW's ROW, FROM ITS FUNCTION's CONTRACT: slices of slices that came in. -/
import Derived.Test.YtafnkpmoolbjjaaDoorZeg
import Derived.Test.YtafnkpmoolbjjaaDoorZee
import Derived.ProofKit
import Derived.ChangeOld
import Derived.DataElems
import Derived.Below
import Derived.SizedLaws
/- LAW 42, THE WALKS: whether violations are proved. -/
set_option linter.unusedSimpArgs false
set_option linter.unusedVariables false
namespace Go.Proofs.YtafnkpmoolbjjaaDoor
namespace Pv
def c22L1 : C := (.seq (.reg [⟨(some 14), 224, none, .bi false .lss (.t 13) (.t 12)⟩])
  (.seq (.cond (.t 14) .skip (.exit 0))
  (.seq (.block 1 (.seq (.reg [⟨(some 15), 240, none, .mv (.t 13)⟩,
    ⟨(some 5), 80, none, .mv (.t 15)⟩])
  (.seq (.drw [⟨(some 16), 256, none, .mv (.t 0)⟩,
    ⟨(some 17), 272, none, .mv (.t 5)⟩,
    ⟨(some 18), 288, none, .ia 1 (.t 16) (.t 17)⟩,
    ⟨(some 19), 304, none, .ld 1 false (.t 18)⟩,
    ⟨(some 20), 320, none, .mv (.t 1)⟩,
    ⟨(some 21), 336, none, .mv (.t 5)⟩,
    ⟨(some 22), 352, none, .ia 1 (.t 20) (.t 21)⟩,
    ⟨(some 23), 368, none, .ld 1 false (.t 22)⟩,
    ⟨(some 24), 384, none, .bi false .neq (.t 19) (.t 23)⟩]
    [(0, 1, 16), (0, 4, 16), (0, 5, 16), (0, 6, 16), (0, 7, 16), (1, 4, 17), (1, 5, 17), (1, 6, 17), (1, 7, 17), (2, 4, 18), (2, 5, 18), (2, 6, 18), (2, 7, 18), (3, 4, 19), (3, 5, 19), (3, 6, 19), (3, 7, 19), (4, 5, 20)])
  (.cond (.t 24) (.seq (.reg [⟨(some 4), 64, none, .mv (.c (.bool false))⟩])
  .ret) .skip))))
  (.reg [⟨(some 25), 400, none, .bi false .add (.t 13) (.c (.int .i64 1))⟩,
    ⟨(some 13), 208, none, .mv (.t 25)⟩]))))
def c22 : C := (.seq (.reg [⟨(some 4), 64, none, .mv (.c (.bool false))⟩])
  (.seq (.seq (.reg [⟨(some 6), 96, none, .mv (.t 0)⟩,
    ⟨(some 7), 112, none, .len (.t 6)⟩,
    ⟨(some 8), 128, none, .mv (.t 1)⟩,
    ⟨(some 9), 144, none, .len (.t 8)⟩,
    ⟨(some 10), 160, none, .bi false .neq (.t 7) (.t 9)⟩])
  (.cond (.t 10) (.seq (.reg [⟨(some 4), 64, none, .mv (.c (.bool false))⟩])
  .ret) .skip))
  (.seq (.seq (.reg [⟨(some 11), 176, none, .mv (.t 0)⟩,
    ⟨(some 12), 192, none, .len (.t 11)⟩,
    ⟨(some 13), 208, none, .mv (.c (.int .i64 0))⟩])
  (.block 0 (.loop c22L1)))
  (.seq (.reg [⟨(some 4), 64, none, .mv (.c (.bool true))⟩])
  .ret))))
theorem fits22 : fits Tryd.prog false Tryd.f22 2 26 [(4, none)] = some c22.er := by kernel_rfl
def c23L1 : C := (.seq (.reg [⟨(some 13), 208, none, .bi false .lss (.t 12) (.t 11)⟩])
  (.seq (.cond (.t 13) .skip (.exit 0))
  (.seq (.block 1 (.seq (.reg [⟨(some 14), 224, none, .ia 4 (.t 10) (.t 12)⟩,
    ⟨(some 15), 240, none, .ld 4 true (.t 14)⟩,
    ⟨(some 6), 96, none, .al [(.int .i64 0), (.int .i64 0), (.int .i64 0), (.int .i64 0)]⟩,
    ⟨none, 0, none, .st 4 (.t 6) (.t 15)⟩])
  (.seq (.reg [⟨(some 17), 272, none, .mv (.t 0)⟩,
    ⟨(some 18), 288, none, .ld 4 true (.t 6)⟩,
    ⟨(some 19), 304, none, .call (.c (.fn (.func 38) [] [])) [(.t 17), (.t 18)]⟩,
    ⟨(some 16), 256, none, .mv (.t 19)⟩,
    ⟨(some 20), 320, none, .ex (.t 16) 0⟩,
    ⟨(some 21), 336, none, .ex (.t 16) 1⟩,
    ⟨(some 7), 112, none, .al [(.int .i64 0), (.int .i64 0), (.int .i64 0), (.int .i64 0), (.int .i64 0), (.int .i64 0), (.int .i64 0)]⟩,
    ⟨none, 0, none, .st 7 (.t 7) (.t 20)⟩,
    ⟨(some 8), 128, none, .mv (.t 21)⟩])
  (.seq (.seq (.reg [⟨(some 22), 352, none, .mv (.t 8)⟩,
    ⟨(some 23), 368, none, .un false .not (.t 22)⟩])
  (.cond (.t 23) (.seq (.reg [⟨(some 4), 64, none, .mv (.c (.bool false))⟩])
  .ret) .skip))
  (.seq (.seq (.reg [⟨(some 24), 384, none, .fa 3 (.t 6)⟩,
    ⟨(some 25), 400, none, .ld 1 false (.t 24)⟩,
    ⟨(some 26), 416, none, .bi false .eql (.t 25) (.c (.int .i64 (-1)))⟩])
  (.cond (.t 26) (.exit 1) .skip))
  (.seq (.reg [⟨(some 28), 448, none, .mv (.t 0)⟩,
    ⟨(some 29), 464, none, .fa 1 (.t 6)⟩,
    ⟨(some 30), 480, none, .ld 1 false (.t 29)⟩,
    ⟨(some 31), 496, none, .fa 3 (.t 6)⟩,
    ⟨(some 32), 512, none, .ld 1 false (.t 31)⟩,
    ⟨(some 33), 528, none, .bd [(.int .i64 0), (.int .i64 0), (.int .i64 0), (.int .i64 0)] [(1, 1, (.t 30)), (2, 1, (.t 32))]⟩,
    ⟨(some 34), 544, none, .call (.c (.fn (.func 38) [] [])) [(.t 28), (.t 33)]⟩,
    ⟨(some 27), 432, none, .mv (.t 34)⟩,
    ⟨(some 35), 560, none, .ex (.t 27) 0⟩,
    ⟨(some 36), 576, none, .ex (.t 27) 1⟩,
    ⟨(some 9), 144, none, .al [(.int .i64 0), (.int .i64 0), (.int .i64 0), (.int .i64 0), (.int .i64 0), (.int .i64 0), (.int .i64 0)]⟩,
    ⟨none, 0, none, .st 7 (.t 9) (.t 35)⟩,
    ⟨(some 8), 128, none, .mv (.t 36)⟩])
  (.seq (.reg [⟨(some 37), 592, none, .mv (.t 8)⟩,
    ⟨(some 38), 608, none, .un false .not (.t 37)⟩,
    ⟨(some 39), 624, none, .mv (.t 38)⟩,
    ⟨(some 40), 640, (some (39, false)), .fa 0 (.t 9)⟩,
    ⟨(some 41), 656, (some (39, false)), .ld 1 false (.t 40)⟩,
    ⟨(some 42), 672, (some (39, false)), .fa 0 (.t 7)⟩,
    ⟨(some 43), 688, (some (39, false)), .ld 1 false (.t 42)⟩,
    ⟨(some 44), 704, (some (39, false)), .bi false .gtr (.t 41) (.t 43)⟩,
    ⟨(some 45), 720, none, .pick (.t 39) (.c (.bool true)) (.t 44)⟩,
    ⟨(some 46), 736, none, .mv (.t 45)⟩,
    ⟨(some 47), 752, (some (46, false)), .fa 0 (.t 9)⟩,
    ⟨(some 48), 768, (some (46, false)), .ld 1 false (.t 47)⟩,
    ⟨(some 49), 784, (some (46, false)), .fa 0 (.t 7)⟩,
    ⟨(some 50), 800, (some (46, false)), .ld 1 false (.t 49)⟩,
    ⟨(some 51), 816, (some (46, false)), .bi false .eql (.t 48) (.t 50)⟩,
    ⟨(some 52), 832, (some (46, false)), .mv (.t 51)⟩,
    ⟨(some 53), 848, (some (52, true)), .fa 3 (.t 6)⟩,
    ⟨(some 54), 864, (some (52, true)), .ld 1 false (.t 53)⟩,
    ⟨(some 55), 880, (some (52, true)), .fa 2 (.t 6)⟩,
    ⟨(some 56), 896, (some (52, true)), .ld 1 false (.t 55)⟩,
    ⟨(some 57), 912, (some (52, true)), .bi false .geq (.t 54) (.t 56)⟩,
    ⟨(some 58), 928, (some (46, false)), .pick (.t 52) (.t 57) (.c (.bool false))⟩,
    ⟨(some 59), 944, none, .pick (.t 46) (.c (.bool true)) (.t 58)⟩])
  (.cond (.t 59) (.seq (.reg [⟨(some 4), 64, none, .mv (.c (.bool false))⟩])
  .ret) .skip))))))))
  (.reg [⟨(some 60), 960, none, .bi false .add (.t 12) (.c (.int .i64 1))⟩,
    ⟨(some 12), 192, none, .mv (.t 60)⟩]))))
def c23 : C := (.seq (.reg [⟨(some 4), 64, none, .mv (.c (.bool false))⟩])
  (.seq (.seq (.reg [⟨(some 10), 160, none, .mv (.t 1)⟩,
    ⟨(some 11), 176, none, .len (.t 10)⟩,
    ⟨(some 12), 192, none, .mv (.c (.int .i64 0))⟩])
  (.block 0 (.loop c23L1)))
  (.seq (.reg [⟨(some 4), 64, none, .mv (.c (.bool true))⟩])
  .ret)))
theorem fits23 : fits Tryd.prog false Tryd.f23 2 61 [(4, none)] = some c23.er := by kernel_rfl
def c24L1 : C := (.seq (.reg [⟨(some 13), 208, none, .bi false .lss (.t 12) (.t 11)⟩])
  (.seq (.cond (.t 13) .skip (.exit 0))
  (.seq (.block 1 (.seq (.reg [⟨(some 14), 224, none, .ia 4 (.t 10) (.t 12)⟩,
    ⟨(some 15), 240, none, .ld 4 true (.t 14)⟩,
    ⟨(some 6), 96, none, .al [(.int .i64 0), (.int .i64 0), (.int .i64 0), (.int .i64 0)]⟩,
    ⟨none, 0, none, .st 4 (.t 6) (.t 15)⟩])
  (.seq (.seq (.reg [⟨(some 16), 256, none, .mv (.t 0)⟩,
    ⟨(some 17), 272, none, .ld 4 true (.t 6)⟩,
    ⟨(some 18), 288, none, .call (.c (.fn (.func 39) [] [])) [(.t 16), (.t 17)]⟩,
    ⟨(some 19), 304, none, .un false .not (.t 18)⟩])
  (.cond (.t 19) (.seq (.reg [⟨(some 4), 64, none, .mv (.c (.bool false))⟩])
  .ret) .skip))
  (.seq (.seq (.reg [⟨(some 20), 320, none, .fa 3 (.t 6)⟩,
    ⟨(some 21), 336, none, .ld 1 false (.t 20)⟩,
    ⟨(some 22), 352, none, .bi false .eql (.t 21) (.c (.int .i64 (-1)))⟩])
  (.cond (.t 22) (.exit 1) .skip))
  (.seq (.reg [⟨(some 23), 368, none, .mv (.t 0)⟩,
    ⟨(some 24), 384, none, .fa 1 (.t 6)⟩,
    ⟨(some 25), 400, none, .ld 1 false (.t 24)⟩,
    ⟨(some 26), 416, none, .ia 1 (.t 23) (.t 25)⟩,
    ⟨(some 27), 432, none, .ld 1 false (.t 26)⟩,
    ⟨(some 7), 112, none, .mv (.t 27)⟩])
  (.seq (.seq (.reg [⟨(some 28), 448, none, .fa 3 (.t 6)⟩,
    ⟨(some 29), 464, none, .ld 1 false (.t 28)⟩,
    ⟨(some 30), 480, none, .bi false .lss (.t 29) (.c (.int .i64 0))⟩,
    ⟨(some 31), 496, none, .mv (.t 30)⟩,
    ⟨(some 32), 512, (some (31, false)), .fa 3 (.t 6)⟩,
    ⟨(some 33), 528, (some (31, false)), .ld 1 false (.t 32)⟩,
    ⟨(some 34), 544, (some (31, false)), .mv (.t 7)⟩,
    ⟨(some 35), 560, (some (31, false)), .len (.t 34)⟩,
    ⟨(some 36), 576, (some (31, false)), .bi false .geq (.t 33) (.t 35)⟩,
    ⟨(some 37), 592, none, .pick (.t 31) (.c (.bool true)) (.t 36)⟩])
  (.cond (.t 37) (.seq (.reg [⟨(some 4), 64, none, .mv (.c (.bool false))⟩])
  .ret) .skip))
  (.seq (.drw [⟨(some 38), 608, none, .mv (.t 7)⟩,
    ⟨(some 39), 624, none, .fa 3 (.t 6)⟩,
    ⟨(some 40), 640, none, .ld 1 false (.t 39)⟩,
    ⟨(some 41), 656, none, .ia 7 (.t 38) (.t 40)⟩,
    ⟨(some 42), 672, none, .fa 0 (.t 41)⟩,
    ⟨(some 43), 688, none, .ld 1 false (.t 42)⟩,
    ⟨(some 44), 704, none, .mv (.t 7)⟩,
    ⟨(some 45), 720, none, .fa 2 (.t 6)⟩,
    ⟨(some 46), 736, none, .ld 1 false (.t 45)⟩,
    ⟨(some 47), 752, none, .ia 7 (.t 44) (.t 46)⟩,
    ⟨(some 48), 768, none, .fa 0 (.t 47)⟩,
    ⟨(some 49), 784, none, .ld 1 false (.t 48)⟩,
    ⟨(some 8), 128, none, .mv (.t 43)⟩,
    ⟨(some 9), 144, none, .mv (.t 49)⟩]
    [(0, 1, 38), (0, 2, 38), (0, 6, 38), (0, 7, 38), (0, 8, 38), (0, 9, 38), (0, 10, 38), (0, 11, 38), (1, 6, 39), (1, 7, 39), (1, 8, 39), (1, 9, 39), (1, 10, 39), (1, 11, 39), (2, 6, 40), (2, 7, 40), (2, 8, 40), (2, 9, 40), (2, 10, 40), (2, 11, 40), (3, 6, 41), (3, 7, 41), (3, 8, 41), (3, 9, 41), (3, 10, 41), (3, 11, 41), (4, 6, 42), (4, 7, 42), (4, 8, 42), (4, 9, 42), (4, 10, 42), (4, 11, 42), (5, 6, 43), (5, 7, 43), (5, 8, 43), (5, 9, 43), (5, 10, 43), (5, 11, 43), (6, 7, 44), (6, 8, 44), (6, 12, 44), (7, 12, 45), (8, 12, 46), (9, 12, 47), (10, 12, 48), (11, 12, 49)])
  (.seq (.reg [⟨(some 50), 800, none, .mv (.t 8)⟩,
    ⟨(some 51), 816, none, .mv (.t 9)⟩,
    ⟨(some 52), 832, none, .bi false .gtr (.t 50) (.t 51)⟩,
    ⟨(some 53), 848, none, .mv (.t 52)⟩,
    ⟨(some 54), 864, (some (53, false)), .mv (.t 8)⟩,
    ⟨(some 55), 880, (some (53, false)), .mv (.t 9)⟩,
    ⟨(some 56), 896, (some (53, false)), .bi false .eql (.t 54) (.t 55)⟩,
    ⟨(some 57), 912, (some (53, false)), .mv (.t 56)⟩,
    ⟨(some 58), 928, (some (57, true)), .fa 3 (.t 6)⟩,
    ⟨(some 59), 944, (some (57, true)), .ld 1 false (.t 58)⟩,
    ⟨(some 60), 960, (some (57, true)), .fa 2 (.t 6)⟩,
    ⟨(some 61), 976, (some (57, true)), .ld 1 false (.t 60)⟩,
    ⟨(some 62), 992, (some (57, true)), .bi false .geq (.t 59) (.t 61)⟩,
    ⟨(some 63), 1008, (some (53, false)), .pick (.t 57) (.t 62) (.c (.bool false))⟩,
    ⟨(some 64), 1024, none, .pick (.t 53) (.c (.bool true)) (.t 63)⟩])
  (.cond (.t 64) (.seq (.reg [⟨(some 4), 64, none, .mv (.c (.bool false))⟩])
  .ret) .skip)))))))))
  (.reg [⟨(some 65), 1040, none, .bi false .add (.t 12) (.c (.int .i64 1))⟩,
    ⟨(some 12), 192, none, .mv (.t 65)⟩]))))
def c24 : C := (.seq (.reg [⟨(some 4), 64, none, .mv (.c (.bool false))⟩])
  (.seq (.seq (.reg [⟨(some 10), 160, none, .mv (.t 1)⟩,
    ⟨(some 11), 176, none, .len (.t 10)⟩,
    ⟨(some 12), 192, none, .mv (.c (.int .i64 0))⟩])
  (.block 0 (.loop c24L1)))
  (.seq (.reg [⟨(some 4), 64, none, .mv (.c (.bool true))⟩])
  .ret)))
theorem fits24 : fits Tryd.prog false Tryd.f24 2 66 [(4, none)] = some c24.er := by kernel_rfl
theorem getD_extI {l m : List Int} (h : l.length = m.length) (ha : ∀ j, j < l.length → l.getD j default = m.getD j default) : l = m := by
  refine List.ext_getElem h fun j h1 h2 => ?_
  have := ha j h1
  simpa [List.getD, h1, h2] using this
set_option maxRecDepth 100000 in
set_option maxHeartbeats 4000000 in
theorem call22 (τ τ' : Nat) (l m : List Int) (hl : l.length ≤ 4611686018427387904) : PureCall Tryd.prog 22 [.sl τ 1 l.length (fl eInt l), .sl τ' 1 m.length (fl eInt m)] [] ⟨.bool (decide (l = m)), [], []⟩ := by
  refine pure_call mix Tryd.func22 fits22 rfl ?_
  conv => whnf
  refine ⟨?_, fun hc => ?_, fun hc => ?_⟩
  · (try conv => whnf)
    (repeat' (first | exact True.intro | exact fun _ h => h | refine inR64_of ?_ ?_ | apply And.intro | refine maxLen_ge ?_)) <;> (first | omega | (dsimp only; omega))
  · simp only [bif_t, bif_f, decide_eq_true_eq, decide_eq_false_iff_not, Bool.not_eq_true', Bool.not_eq_false', Bool.and_eq_true, Bool.or_eq_true, Bool.and_eq_false_iff, Bool.or_eq_false_iff, beq_iff_eq, bne_iff_ne, beq_eq_false_iff_ne, bne_eq_false_iff_eq, reduceCtorEq, false_and, and_false, true_and, and_true, or_false, false_or, or_true, true_or, not_true_eq_false, not_false_eq_true, Int.toNat_zero] at hc
    rw [decide_eq_false (p := l = m) (fun e => by rw [e] at hc; omega)]
    conv => whnf
    refine ⟨?_, [], ?_⟩
    · (try conv => whnf)
      (repeat' (first | exact True.intro | exact fun _ h => h | refine inR64_of ?_ ?_ | apply And.intro | refine maxLen_ge ?_)) <;> (first | omega | (dsimp only; omega))
    conv => whnf
    refine ⟨rfl, ?_, trivial, trivial⟩
    all_goals repeat' (first | exact True.intro | refine leF_cons rfl ?_ ?_ | refine leS_cons rfl ?_ ?_ | (show PLe _ _ _ _; conv => whnf) | (show SLe _ _ _ _; conv => whnf) | (show PLeL _ _ _ _; conv => whnf) | apply And.intro | rfl | exact Nat.le_refl _ | exact fun _ _ => rfl | exact rowEq0 _ _)
  simp only [bif_t, bif_f, decide_eq_true_eq, decide_eq_false_iff_not, Bool.not_eq_true', Bool.not_eq_false', Bool.and_eq_true, Bool.or_eq_true, Bool.and_eq_false_iff, Bool.or_eq_false_iff, beq_iff_eq, bne_iff_ne, beq_eq_false_iff_ne, bne_eq_false_iff_eq, reduceCtorEq, false_and, and_false, true_and, and_true, or_false, false_or, or_true, true_or, not_true_eq_false, not_false_eq_true, Int.toNat_zero] at hc
  have hlm : l.length = m.length := by omega
  conv => whnf
  refine ⟨trivial, ?_⟩
  refine LSem.loop (n := 26) mix (α := Nat) (fun i => i ≤ l.length ∧ ∀ j, j < i → l.getD j default = m.getD j default)
    (fun i => [(0, .sl τ 1 l.length (fl eInt l)), (1, .sl τ' 1 m.length (fl eInt m)), (12, .int .i64 l.length), (13, .int .i64 i)])
    (fun i => []) (fun i => l.length - i) 0 ?_ ?_ ?_
  · exact ⟨Nat.zero_le _, fun j hj => by omega⟩
  · refine ⟨rfl, rfl, ?_, ?_⟩
    all_goals repeat' (first | exact True.intro | refine leF_cons rfl ?_ ?_ | refine leS_cons rfl ?_ ?_ | (show PLe _ _ _ _; conv => whnf) | (show SLe _ _ _ _; conv => whnf) | (show PLeL _ _ _ _; conv => whnf) | apply And.intro | rfl | exact Nat.le_refl _ | exact fun _ _ => rfl | exact rowEq0 _ _)
  · intro i hi
    obtain ⟨hi, hall⟩ := hi
    have hj : ((i : Int)).toNat = i := by omega
    conv => whnf
    refine ⟨trivial, fun hc2 => ?_, fun hc2 => ?_⟩
    · replace hc2 := of_decide_eq_true hc2
      have hlt : i < l.length := by
        have h : (i : Int) < l.length := hc2
        omega
      conv => whnf
      refine ⟨rfl, ?_⟩
      conv => whnf
      rw [hj]
      refine ⟨?_, fun h1 => ?_, fun h1 => ?_⟩
      · (try conv => whnf)
        (repeat' (first | exact True.intro | exact fun _ h => h | refine inR64_of ?_ ?_ | apply And.intro | refine maxLen_ge ?_)) <;> (first | omega | (dsimp only; omega))
      · have hne : l.getD i default ≠ m.getD i default := bne_iff_ne.1 h1
        rw [decide_eq_false (p := l = m) (fun e => hne (by rw [e]))]
        conv => whnf
        refine ⟨?_, [], ?_⟩
        · (try conv => whnf)
          (repeat' (first | exact True.intro | exact fun _ h => h | refine inR64_of ?_ ?_ | apply And.intro | refine maxLen_ge ?_)) <;> (first | omega | (dsimp only; omega))
        conv => whnf
        refine ⟨rfl, ?_, trivial, trivial⟩
        all_goals repeat' (first | exact True.intro | refine leF_cons rfl ?_ ?_ | refine leS_cons rfl ?_ ?_ | (show PLe _ _ _ _; conv => whnf) | (show SLe _ _ _ _; conv => whnf) | (show PLeL _ _ _ _; conv => whnf) | apply And.intro | rfl | exact Nat.le_refl _ | exact fun _ _ => rfl | exact rowEq0 _ _)
      · have hne : l.getD i default = m.getD i default := bne_eq_false_iff_eq.1 h1
        conv => whnf
        refine ⟨?_, i + 1, ⟨hlt, fun j hj2 => ?_⟩, ?_, rfl, rfl, ?_, ?_⟩
        · (try conv => whnf)
          (repeat' (first | exact True.intro | exact fun _ h => h | refine inR64_of ?_ ?_ | apply And.intro | refine maxLen_ge ?_)) <;> (first | omega | (dsimp only; omega))
        · rcases Nat.lt_or_ge j i with h | h
          · exact hall j h
          · rw [show j = i by omega]; exact hne
        · omega
        all_goals repeat' (first | exact True.intro | refine leF_cons rfl ?_ ?_ | refine leS_cons rfl ?_ ?_ | (show PLe _ _ _ _; conv => whnf) | (show SLe _ _ _ _; conv => whnf) | (show PLeL _ _ _ _; conv => whnf) | apply And.intro | rfl | exact Nat.le_refl _ | exact fun _ _ => rfl | exact rowEq0 _ _)
        all_goals first | omega | skip
    · replace hc2 := of_decide_eq_false hc2
      have hk : i = l.length := by
        have h : ¬ (i : Int) < l.length := hc2
        omega
      subst hk
      rw [decide_eq_true (getD_extI hlm hall)]
      conv => whnf
      refine ⟨?_, [], ?_⟩
      · (try conv => whnf)
        (repeat' (first | exact True.intro | exact fun _ h => h | refine inR64_of ?_ ?_ | apply And.intro | refine maxLen_ge ?_)) <;> (first | omega | (dsimp only; omega))
      conv => whnf
      refine ⟨rfl, ?_, trivial, trivial⟩
      all_goals repeat' (first | exact True.intro | refine leF_cons rfl ?_ ?_ | refine leS_cons rfl ?_ ?_ | (show PLe _ _ _ _; conv => whnf) | (show SLe _ _ _ _; conv => whnf) | (show PLeL _ _ _ _; conv => whnf) | apply And.intro | rfl | exact Nat.le_refl _ | exact fun _ _ => rfl | exact rowEq0 _ _)
def stgV (C : List (List Cd)) (v : Vi) : Prop := (0 ≤ v.b ∧ v.b < (C.getD v.s.toNat default).length) ∧ ¬ ((cdV C ⟨0, v.s, v.b, 0⟩).r > (cdV C v).r ∨ (cdV C ⟨0, v.s, v.b, 0⟩).r = (cdV C v).r ∧ v.c ≤ v.b)
instance (C : List (List Cd)) (v : Vi) : Decidable (stgV C v) := by unfold stgV; infer_instance
def prvS (C : List (List Cd)) (v : Vi) : Prop := belV C v ∧ (v.b = -1 ∨ stgV C v)
instance (C : List (List Cd)) (v : Vi) : Decidable (prvS C v) := by unfold prvS; infer_instance
def prvF (C : List (List Cd)) (l : List Vi) : Bool := l.all fun v => decide (prvS C v)
theorem prv_all {C : List (List Cd)} {l : List Vi} (h : ∀ k, k < l.length → prvS C (l.getD k default)) : prvF C l = true := by
  unfold prvF
  rw [List.all_eq_true]
  intro v hv
  obtain ⟨i, hi, rfl⟩ := List.mem_iff_getElem.1 hv
  have := h i hi
  simp only [List.getD, List.getElem?_eq_getElem hi, Option.getD_some] at this
  exact decide_eq_true this
theorem prv_not {C : List (List Cd)} {l : List Vi} {k : Nat} (hk : k < l.length) (h : ¬ prvS C (l.getD k default)) : prvF C l = false := by
  cases hb : prvF C l with
  | false => rfl
  | true =>
    unfold prvF at hb
    rw [List.all_eq_true] at hb
    exact absurd (of_decide_eq_true (hb _ (getD_mem hk))) h
theorem bel_by {C : List (List Cd)} {v : Vi} (h : belV C v) : belV C ⟨0, v.s, v.b, 0⟩ ↔ 0 ≤ v.b ∧ v.b < (C.getD v.s.toNat default).length := ⟨fun h2 => h2.2, fun h2 => ⟨h.1, h2⟩⟩
set_option maxRecDepth 100000 in
set_option maxHeartbeats 8000000 in
theorem call23 (τ σ τ' : Nat) (C : List (List Cd)) (l : List Vi) (hl : C.length ≤ 4611686018427387904) (hC : ∀ i, i < C.length → (C.getD i default).length ≤ 4611686018427387904) (hll : l.length ≤ 4611686018427387904) :
    PureCall Tryd.prog 23 [.sl τ 1 C.length (fl (eCs σ) C), .sl τ' 4 l.length (fl eVi l)] [] ⟨.bool (prvF C l), [], []⟩ := by
  refine pure_call mix Tryd.func23 fits23 rfl ?_
  conv => whnf
  refine ⟨trivial, ?_⟩
  refine LSem.loop (n := 61) mix (α := Nat) (fun i => i ≤ l.length ∧ ∀ k, k < i → prvS C (l.getD k default))
    (fun i => [(0, .sl τ 1 C.length (fl (eCs σ) C)), (10, .sl τ' 4 l.length (fl eVi l)), (11, .int .i64 l.length), (12, .int .i64 i)])
    (fun i => []) (fun i => l.length - i) 0 ?_ ?_ ?_
  · exact ⟨Nat.zero_le _, fun k hk => absurd hk (Nat.not_lt_zero _)⟩
  · refine ⟨rfl, rfl, ?_, ?_⟩
    all_goals repeat' (first | exact True.intro | refine leF_cons rfl ?_ ?_ | refine leS_cons rfl ?_ ?_ | (show PLe _ _ _ _; conv => whnf) | (show SLe _ _ _ _; conv => whnf) | (show PLeL _ _ _ _; conv => whnf) | apply And.intro | rfl | exact Nat.le_refl _ | exact fun _ _ => rfl | exact rowEq0 _ _)
  · intro i hx
    obtain ⟨hi, hall⟩ := hx
    have hj : ((i : Int)).toNat = i := by omega
    conv => whnf
    refine ⟨trivial, fun hc => ?_, fun hc => ?_⟩
    · replace hc := of_decide_eq_true hc
      have hlt : i < l.length := by
        have h : (i : Int) < l.length := hc
        omega
      have hno := prv_not (C := C) hlt
      have hyes : prvS C (l.getD i default) → ∀ k, k < i + 1 → prvS C (l.getD k default) := fun h k hk => by
        rcases Nat.lt_or_ge k i with h2 | h2
        · exact hall k h2
        · rw [show k = i by omega]; exact h
      conv => whnf
      rw [hj]
      generalize l.getD i default = v at hno hyes ⊢
      refine ⟨_, fun _ => call38 _ σ C v hl hC, ?_⟩
      by_cases hb : belV C v
      · rw [decide_eq_true hb, if_pos hb]
        conv => whnf
        refine ⟨?_, fun h => (by cases h), fun _ => ?_⟩
        · (try conv => whnf)
          (repeat' (first | exact True.intro | exact fun _ h => h | refine inR64_of ?_ ?_ | apply And.intro | refine maxLen_ge ?_)) <;> (first | omega | (dsimp only; omega))
        conv => whnf
        refine ⟨?_, fun h1 => ?_, fun h1 => ?_⟩
        · (try conv => whnf)
          (repeat' (first | exact True.intro | exact fun _ h => h | refine inR64_of ?_ ?_ | apply And.intro | refine maxLen_ge ?_)) <;> (first | omega | (dsimp only; omega))
        · have h1 : v.b = -1 := beq_iff_eq.1 h1
          have hy := hyes ⟨hb, .inl h1⟩
          conv => whnf
          refine ⟨?_, i + 1, ⟨hlt, hy⟩, by omega, rfl, rfl, ?_, ?_⟩
          · (try conv => whnf)
            (repeat' (first | exact True.intro | exact fun _ h => h | refine inR64_of ?_ ?_ | apply And.intro | refine maxLen_ge ?_)) <;> (first | omega | (dsimp only; omega))
          all_goals repeat' (first | exact True.intro | refine leF_cons rfl ?_ ?_ | refine leS_cons rfl ?_ ?_ | (show PLe _ _ _ _; conv => whnf) | (show SLe _ _ _ _; conv => whnf) | (show PLeL _ _ _ _; conv => whnf) | apply And.intro | rfl | exact Nat.le_refl _ | exact fun _ _ => rfl | exact rowEq0 _ _)
          all_goals first | omega | skip
        have h1 : ¬ v.b = -1 := beq_eq_false_iff_ne.1 h1
        conv => whnf
        refine ⟨_, fun _ => call38 _ σ C ⟨0, v.s, v.b, 0⟩ hl hC, ?_⟩
        have hst : stgV C v ↔ belV C ⟨0, v.s, v.b, 0⟩ ∧ ¬ ((cdV C ⟨0, v.s, v.b, 0⟩).r > (cdV C v).r ∨ (cdV C ⟨0, v.s, v.b, 0⟩).r = (cdV C v).r ∧ v.c ≤ v.b) := by
          unfold stgV; rw [bel_by hb]
        generalize cdV C ⟨0, v.s, v.b, 0⟩ = K2 at hst ⊢
        generalize cdV C v = K1 at hst ⊢
        by_cases hb2 : belV C ⟨0, v.s, v.b, 0⟩
        · rw [decide_eq_true hb2, if_pos hb2]
          conv => whnf
          refine ⟨?_, fun hc => ?_, fun hc => ?_⟩
          · (try conv => whnf)
            (repeat' (first | exact True.intro | exact fun _ h => h | refine inR64_of ?_ ?_ | apply And.intro | refine maxLen_ge ?_)) <;> (first | omega | decide | (dsimp only; omega) | (dsimp only [List.length_cons, List.length_nil]; omega) | (intro hg; rw [hg]; rfl) | (intro hg hh; rw [hg, hh]; rfl) | (intro hg; simp [-List.getD_eq_getElem?_getD, -Int.default_eq_zero] at hg; first | omega | (refine inR64_of ?_ ?_ <;> omega) | (constructor <;> omega)) | (simp [-List.getD_eq_getElem?_getD, -Int.default_eq_zero]; done))
          · have hc : (bif decide (K1.r < K2.r) then true else bif K2.r == K1.r then decide (v.c ≤ v.b) else false) = true := hc
            simp only [bif_t, bif_f, decide_eq_true_eq, decide_eq_false_iff_not, Bool.not_eq_true', Bool.not_eq_false', Bool.and_eq_true, Bool.or_eq_true, Bool.and_eq_false_iff, Bool.or_eq_false_iff, beq_iff_eq, bne_iff_ne, beq_eq_false_iff_ne, bne_eq_false_iff_eq, reduceCtorEq, false_and, and_false, true_and, and_true, or_false, false_or, or_true, true_or, not_true_eq_false, not_false_eq_true, Int.toNat_zero] at hc
            rw [hno (fun h => by
              rcases h.2 with h | h
              · exact h1 h
              · have := (hst.1 h).2
                omega)]
            conv => whnf
            refine ⟨?_, [], ?_⟩
            · (try conv => whnf)
              (repeat' (first | exact True.intro | exact fun _ h => h | refine inR64_of ?_ ?_ | apply And.intro | refine maxLen_ge ?_)) <;> (first | omega | (dsimp only; omega))
            conv => whnf
            refine ⟨rfl, ?_, trivial, trivial⟩
            all_goals repeat' (first | exact True.intro | refine leF_cons rfl ?_ ?_ | refine leS_cons rfl ?_ ?_ | (show PLe _ _ _ _; conv => whnf) | (show SLe _ _ _ _; conv => whnf) | (show PLeL _ _ _ _; conv => whnf) | apply And.intro | rfl | exact Nat.le_refl _ | exact fun _ _ => rfl | exact rowEq0 _ _)
          · have hc : (bif decide (K1.r < K2.r) then true else bif K2.r == K1.r then decide (v.c ≤ v.b) else false) = false := hc
            simp only [bif_t, bif_f, decide_eq_true_eq, decide_eq_false_iff_not, Bool.not_eq_true', Bool.not_eq_false', Bool.and_eq_true, Bool.or_eq_true, Bool.and_eq_false_iff, Bool.or_eq_false_iff, beq_iff_eq, bne_iff_ne, beq_eq_false_iff_ne, bne_eq_false_iff_eq, reduceCtorEq, false_and, and_false, true_and, and_true, or_false, false_or, or_true, true_or, not_true_eq_false, not_false_eq_true, Int.toNat_zero] at hc
            have hy := hyes ⟨hb, .inr (hst.2 ⟨hb2, by omega⟩)⟩
            conv => whnf
            refine ⟨?_, i + 1, ⟨hlt, hy⟩, by omega, rfl, rfl, ?_, ?_⟩
            · (try conv => whnf)
              (repeat' (first | exact True.intro | exact fun _ h => h | refine inR64_of ?_ ?_ | apply And.intro | refine maxLen_ge ?_)) <;> (first | omega | (dsimp only; omega))
            all_goals repeat' (first | exact True.intro | refine leF_cons rfl ?_ ?_ | refine leS_cons rfl ?_ ?_ | (show PLe _ _ _ _; conv => whnf) | (show SLe _ _ _ _; conv => whnf) | (show PLeL _ _ _ _; conv => whnf) | apply And.intro | rfl | exact Nat.le_refl _ | exact fun _ _ => rfl | exact rowEq0 _ _)
            all_goals first | omega | skip
        · rw [decide_eq_false hb2, if_neg hb2]
          rw [hno (fun h => by
            rcases h.2 with h | h
            · exact h1 h
            · exact hb2 (hst.1 h).1)]
          conv => whnf
          refine ⟨?_, fun _ => ?_, fun h => (by cases h)⟩
          · (try conv => whnf)
            (repeat' (first | exact True.intro | exact fun _ h => h | refine inR64_of ?_ ?_ | apply And.intro | refine maxLen_ge ?_)) <;> (first | omega | decide | (dsimp only; omega) | (dsimp only [List.length_cons, List.length_nil]; omega) | (intro hg; rw [hg]; rfl) | (intro hg hh; rw [hg, hh]; rfl) | (intro hg; simp [-List.getD_eq_getElem?_getD, -Int.default_eq_zero] at hg; first | omega | (refine inR64_of ?_ ?_ <;> omega) | (constructor <;> omega)) | (simp [-List.getD_eq_getElem?_getD, -Int.default_eq_zero]; done))
          conv => whnf
          refine ⟨?_, [], ?_⟩
          · (try conv => whnf)
            (repeat' (first | exact True.intro | exact fun _ h => h | refine inR64_of ?_ ?_ | apply And.intro | refine maxLen_ge ?_)) <;> (first | omega | (dsimp only; omega))
          conv => whnf
          refine ⟨rfl, ?_, trivial, trivial⟩
          all_goals repeat' (first | exact True.intro | refine leF_cons rfl ?_ ?_ | refine leS_cons rfl ?_ ?_ | (show PLe _ _ _ _; conv => whnf) | (show SLe _ _ _ _; conv => whnf) | (show PLeL _ _ _ _; conv => whnf) | apply And.intro | rfl | exact Nat.le_refl _ | exact fun _ _ => rfl | exact rowEq0 _ _)
      · rw [decide_eq_false hb, if_neg hb]
        rw [hno (fun h => hb h.1)]
        conv => whnf
        refine ⟨?_, fun _ => ?_, fun h => (by cases h)⟩
        · (try conv => whnf)
          (repeat' (first | exact True.intro | exact fun _ h => h | refine inR64_of ?_ ?_ | apply And.intro | refine maxLen_ge ?_)) <;> (first | omega | (dsimp only; omega))
        conv => whnf
        refine ⟨?_, [], ?_⟩
        · (try conv => whnf)
          (repeat' (first | exact True.intro | exact fun _ h => h | refine inR64_of ?_ ?_ | apply And.intro | refine maxLen_ge ?_)) <;> (first | omega | (dsimp only; omega))
        conv => whnf
        refine ⟨rfl, ?_, trivial, trivial⟩
        all_goals repeat' (first | exact True.intro | refine leF_cons rfl ?_ ?_ | refine leS_cons rfl ?_ ?_ | (show PLe _ _ _ _; conv => whnf) | (show SLe _ _ _ _; conv => whnf) | (show PLeL _ _ _ _; conv => whnf) | apply And.intro | rfl | exact Nat.le_refl _ | exact fun _ _ => rfl | exact rowEq0 _ _)
    · replace hc := of_decide_eq_false hc
      have hk : i = l.length := by
        have h : ¬ (i : Int) < l.length := hc
        omega
      subst hk
      rw [prv_all hall]
      conv => whnf
      refine ⟨?_, [], ?_⟩
      · (try conv => whnf)
        (repeat' (first | exact True.intro | exact fun _ h => h | refine inR64_of ?_ ?_ | apply And.intro | refine maxLen_ge ?_)) <;> (first | omega | (dsimp only; omega))
      conv => whnf
      refine ⟨rfl, ?_, trivial, trivial⟩
      all_goals repeat' (first | exact True.intro | refine leF_cons rfl ?_ ?_ | refine leS_cons rfl ?_ ?_ | (show PLe _ _ _ _; conv => whnf) | (show SLe _ _ _ _; conv => whnf) | (show PLeL _ _ _ _; conv => whnf) | apply And.intro | rfl | exact Nat.le_refl _ | exact fun _ _ => rfl | exact rowEq0 _ _)
set_option maxRecDepth 100000 in
set_option maxHeartbeats 8000000 in
theorem call24 (τ σ τ' : Nat) (C : List (List Cd)) (l : List Vi) (hl : C.length ≤ 4611686018427387904) (hC : ∀ i, i < C.length → (C.getD i default).length ≤ 4611686018427387904) (hll : l.length ≤ 4611686018427387904) :
    PureCall Tryd.prog 24 [.sl τ 1 C.length (fl (eCs σ) C), .sl τ' 4 l.length (fl eVi l)] [] ⟨.bool (prvF C l), [], []⟩ := by
  refine pure_call mix Tryd.func24 fits24 rfl ?_
  conv => whnf
  refine ⟨trivial, ?_⟩
  refine LSem.loop (n := 66) mix (α := Nat) (fun i => i ≤ l.length ∧ ∀ k, k < i → prvS C (l.getD k default))
    (fun i => [(0, .sl τ 1 C.length (fl (eCs σ) C)), (10, .sl τ' 4 l.length (fl eVi l)), (11, .int .i64 l.length), (12, .int .i64 i)])
    (fun i => []) (fun i => l.length - i) 0 ?_ ?_ ?_
  · exact ⟨Nat.zero_le _, fun k hk => absurd hk (Nat.not_lt_zero _)⟩
  · refine ⟨rfl, rfl, ?_, ?_⟩
    all_goals repeat' (first | exact True.intro | refine leF_cons rfl ?_ ?_ | refine leS_cons rfl ?_ ?_ | (show PLe _ _ _ _; conv => whnf) | (show SLe _ _ _ _; conv => whnf) | (show PLeL _ _ _ _; conv => whnf) | apply And.intro | rfl | exact Nat.le_refl _ | exact fun _ _ => rfl | exact rowEq0 _ _)
  · intro i hx
    obtain ⟨hi, hall⟩ := hx
    have hj : ((i : Int)).toNat = i := by omega
    conv => whnf
    refine ⟨trivial, fun hc => ?_, fun hc => ?_⟩
    · replace hc := of_decide_eq_true hc
      have hlt : i < l.length := by
        have h : (i : Int) < l.length := hc
        omega
      have hno := prv_not (C := C) hlt
      have hyes : prvS C (l.getD i default) → ∀ k, k < i + 1 → prvS C (l.getD k default) := fun h k hk => by
        rcases Nat.lt_or_ge k i with h2 | h2
        · exact hall k h2
        · rw [show k = i by omega]; exact h
      conv => whnf
      rw [hj]
      generalize l.getD i default = v at hno hyes ⊢
      refine ⟨_, fun _ => call39 _ σ C v hl hC, ?_⟩
      by_cases hb : belV C v
      · rw [decide_eq_true hb]
        have hb0 := hb
        obtain ⟨⟨b1, b2⟩, b3, b4⟩ := hb0
        conv => whnf
        refine ⟨?_, fun h => (by cases h), fun _ => ?_⟩
        · (try conv => whnf)
          (repeat' (first | exact True.intro | exact fun _ h => h | refine inR64_of ?_ ?_ | apply And.intro | refine maxLen_ge ?_)) <;> (first | omega | (dsimp only; omega))
        conv => whnf
        refine ⟨?_, fun h1 => ?_, fun h1 => ?_⟩
        · (try conv => whnf)
          (repeat' (first | exact True.intro | exact fun _ h => h | refine inR64_of ?_ ?_ | apply And.intro | refine maxLen_ge ?_)) <;> (first | omega | (dsimp only; omega))
        · have h1 : v.b = -1 := beq_iff_eq.1 h1
          have hy := hyes ⟨hb, .inl h1⟩
          conv => whnf
          refine ⟨?_, i + 1, ⟨hlt, hy⟩, by omega, rfl, rfl, ?_, ?_⟩
          · (try conv => whnf)
            (repeat' (first | exact True.intro | exact fun _ h => h | refine inR64_of ?_ ?_ | apply And.intro | refine maxLen_ge ?_)) <;> (first | omega | (dsimp only; omega))
          all_goals repeat' (first | exact True.intro | refine leF_cons rfl ?_ ?_ | refine leS_cons rfl ?_ ?_ | (show PLe _ _ _ _; conv => whnf) | (show SLe _ _ _ _; conv => whnf) | (show PLeL _ _ _ _; conv => whnf) | apply And.intro | rfl | exact Nat.le_refl _ | exact fun _ _ => rfl | exact rowEq0 _ _)
          all_goals first | omega | skip
        have h1 : ¬ v.b = -1 := beq_eq_false_iff_ne.1 h1
        conv => whnf
        refine ⟨?_, fun hc => ?_, fun hc => ?_⟩
        · (try conv => whnf)
          (repeat' (first | exact True.intro | exact fun _ h => h | refine inR64_of ?_ ?_ | apply And.intro | refine maxLen_ge ?_)) <;> (first | omega | decide | (dsimp only; omega) | (dsimp only [List.length_cons, List.length_nil]; omega) | (intro hg; rw [hg]; rfl) | (intro hg hh; rw [hg, hh]; rfl) | (intro hg; simp [-List.getD_eq_getElem?_getD, -Int.default_eq_zero] at hg; first | omega | (refine inR64_of ?_ ?_ <;> omega) | (constructor <;> omega)) | (simp [-List.getD_eq_getElem?_getD, -Int.default_eq_zero]; done))
        · have hc : (bif decide (v.b < 0) then true else decide (((C.getD v.s.toNat default).length : Int) ≤ v.b)) = true := hc
          simp only [bif_t, bif_f, decide_eq_true_eq, decide_eq_false_iff_not, Bool.not_eq_true', Bool.not_eq_false', Bool.and_eq_true, Bool.or_eq_true, Bool.and_eq_false_iff, Bool.or_eq_false_iff, beq_iff_eq, bne_iff_ne, beq_eq_false_iff_ne, bne_eq_false_iff_eq, reduceCtorEq, false_and, and_false, true_and, and_true, or_false, false_or, or_true, true_or, not_true_eq_false, not_false_eq_true, Int.toNat_zero] at hc
          rw [hno (fun h => by
            rcases h.2 with h | h
            · exact h1 h
            · have := h.1
              omega)]
          conv => whnf
          refine ⟨?_, [], ?_⟩
          · (try conv => whnf)
            (repeat' (first | exact True.intro | exact fun _ h => h | refine inR64_of ?_ ?_ | apply And.intro | refine maxLen_ge ?_)) <;> (first | omega | (dsimp only; omega))
          conv => whnf
          refine ⟨rfl, ?_, trivial, trivial⟩
          all_goals repeat' (first | exact True.intro | refine leF_cons rfl ?_ ?_ | refine leS_cons rfl ?_ ?_ | (show PLe _ _ _ _; conv => whnf) | (show SLe _ _ _ _; conv => whnf) | (show PLeL _ _ _ _; conv => whnf) | apply And.intro | rfl | exact Nat.le_refl _ | exact fun _ _ => rfl | exact rowEq0 _ _)
        have hc : (bif decide (v.b < 0) then true else decide (((C.getD v.s.toNat default).length : Int) ≤ v.b)) = false := hc
        simp only [bif_t, bif_f, decide_eq_true_eq, decide_eq_false_iff_not, Bool.not_eq_true', Bool.not_eq_false', Bool.and_eq_true, Bool.or_eq_true, Bool.and_eq_false_iff, Bool.or_eq_false_iff, beq_iff_eq, bne_iff_ne, beq_eq_false_iff_ne, bne_eq_false_iff_eq, reduceCtorEq, false_and, and_false, true_and, and_true, or_false, false_or, or_true, true_or, not_true_eq_false, not_false_eq_true, Int.toNat_zero] at hc
        have hst : stgV C v ↔ ¬ ((cdV C ⟨0, v.s, v.b, 0⟩).r > (cdV C v).r ∨ (cdV C ⟨0, v.s, v.b, 0⟩).r = (cdV C v).r ∧ v.c ≤ v.b) := by
          unfold stgV
          constructor
          · exact fun h => h.2
          · exact fun h => ⟨by omega, h⟩
        have e1 : ((C.getD v.s.toNat default).getD v.c.toNat default).r = (cdV C v).r := rfl
        have e2 : ((C.getD v.s.toNat default).getD v.b.toNat default).r = (cdV C ⟨0, v.s, v.b, 0⟩).r := rfl
        conv => whnf
        refine ⟨rfl, ?_⟩
        conv => whnf
        rw [e1, e2]
        generalize (cdV C ⟨0, v.s, v.b, 0⟩).r = K2 at hst ⊢
        generalize (cdV C v).r = K1 at hst ⊢
        refine ⟨?_, fun hc => ?_, fun hc => ?_⟩
        · (try conv => whnf)
          (repeat' (first | exact True.intro | exact fun _ h => h | refine inR64_of ?_ ?_ | apply And.intro | refine maxLen_ge ?_)) <;> (first | omega | decide | (dsimp only; omega) | (dsimp only [List.length_cons, List.length_nil]; omega) | (intro hg; rw [hg]; rfl) | (intro hg hh; rw [hg, hh]; rfl) | (intro hg; simp [-List.getD_eq_getElem?_getD, -Int.default_eq_zero] at hg; first | omega | (refine inR64_of ?_ ?_ <;> omega) | (constructor <;> omega)) | (simp [-List.getD_eq_getElem?_getD, -Int.default_eq_zero]; done))
        · have hc : (bif decide (K1 < K2) then true else bif K2 == K1 then decide (v.c ≤ v.b) else false) = true := hc
          simp only [bif_t, bif_f, decide_eq_true_eq, decide_eq_false_iff_not, Bool.not_eq_true', Bool.not_eq_false', Bool.and_eq_true, Bool.or_eq_true, Bool.and_eq_false_iff, Bool.or_eq_false_iff, beq_iff_eq, bne_iff_ne, beq_eq_false_iff_ne, bne_eq_false_iff_eq, reduceCtorEq, false_and, and_false, true_and, and_true, or_false, false_or, or_true, true_or, not_true_eq_false, not_false_eq_true, Int.toNat_zero] at hc
          rw [hno (fun h => by
            rcases h.2 with h | h
            · exact h1 h
            · have := hst.1 h
              omega)]
          conv => whnf
          refine ⟨?_, [], ?_⟩
          · (try conv => whnf)
            (repeat' (first | exact True.intro | exact fun _ h => h | refine inR64_of ?_ ?_ | apply And.intro | refine maxLen_ge ?_)) <;> (first | omega | (dsimp only; omega))
          conv => whnf
          refine ⟨rfl, ?_, trivial, trivial⟩
          all_goals repeat' (first | exact True.intro | refine leF_cons rfl ?_ ?_ | refine leS_cons rfl ?_ ?_ | (show PLe _ _ _ _; conv => whnf) | (show SLe _ _ _ _; conv => whnf) | (show PLeL _ _ _ _; conv => whnf) | apply And.intro | rfl | exact Nat.le_refl _ | exact fun _ _ => rfl | exact rowEq0 _ _)
        · have hc : (bif decide (K1 < K2) then true else bif K2 == K1 then decide (v.c ≤ v.b) else false) = false := hc
          simp only [bif_t, bif_f, decide_eq_true_eq, decide_eq_false_iff_not, Bool.not_eq_true', Bool.not_eq_false', Bool.and_eq_true, Bool.or_eq_true, Bool.and_eq_false_iff, Bool.or_eq_false_iff, beq_iff_eq, bne_iff_ne, beq_eq_false_iff_ne, bne_eq_false_iff_eq, reduceCtorEq, false_and, and_false, true_and, and_true, or_false, false_or, or_true, true_or, not_true_eq_false, not_false_eq_true, Int.toNat_zero] at hc
          have hy := hyes ⟨hb, .inr (hst.2 (by omega))⟩
          conv => whnf
          refine ⟨?_, i + 1, ⟨hlt, hy⟩, by omega, rfl, rfl, ?_, ?_⟩
          · (try conv => whnf)
            (repeat' (first | exact True.intro | exact fun _ h => h | refine inR64_of ?_ ?_ | apply And.intro | refine maxLen_ge ?_)) <;> (first | omega | (dsimp only; omega))
          all_goals repeat' (first | exact True.intro | refine leF_cons rfl ?_ ?_ | refine leS_cons rfl ?_ ?_ | (show PLe _ _ _ _; conv => whnf) | (show SLe _ _ _ _; conv => whnf) | (show PLeL _ _ _ _; conv => whnf) | apply And.intro | rfl | exact Nat.le_refl _ | exact fun _ _ => rfl | exact rowEq0 _ _)
          all_goals first | omega | skip
      · rw [decide_eq_false hb]
        rw [hno (fun h => hb h.1)]
        conv => whnf
        refine ⟨?_, fun _ => ?_, fun h => (by cases h)⟩
        · (try conv => whnf)
          (repeat' (first | exact True.intro | exact fun _ h => h | refine inR64_of ?_ ?_ | apply And.intro | refine maxLen_ge ?_)) <;> (first | omega | (dsimp only; omega))
        conv => whnf
        refine ⟨?_, [], ?_⟩
        · (try conv => whnf)
          (repeat' (first | exact True.intro | exact fun _ h => h | refine inR64_of ?_ ?_ | apply And.intro | refine maxLen_ge ?_)) <;> (first | omega | (dsimp only; omega))
        conv => whnf
        refine ⟨rfl, ?_, trivial, trivial⟩
        all_goals repeat' (first | exact True.intro | refine leF_cons rfl ?_ ?_ | refine leS_cons rfl ?_ ?_ | (show PLe _ _ _ _; conv => whnf) | (show SLe _ _ _ _; conv => whnf) | (show PLeL _ _ _ _; conv => whnf) | apply And.intro | rfl | exact Nat.le_refl _ | exact fun _ _ => rfl | exact rowEq0 _ _)
    · replace hc := of_decide_eq_false hc
      have hk : i = l.length := by
        have h : ¬ (i : Int) < l.length := hc
        omega
      subst hk
      rw [prv_all hall]
      conv => whnf
      refine ⟨?_, [], ?_⟩
      · (try conv => whnf)
        (repeat' (first | exact True.intro | exact fun _ h => h | refine inR64_of ?_ ?_ | apply And.intro | refine maxLen_ge ?_)) <;> (first | omega | (dsimp only; omega))
      conv => whnf
      refine ⟨rfl, ?_, trivial, trivial⟩
      all_goals repeat' (first | exact True.intro | refine leF_cons rfl ?_ ?_ | refine leS_cons rfl ?_ ?_ | (show PLe _ _ _ _; conv => whnf) | (show SLe _ _ _ _; conv => whnf) | (show PLeL _ _ _ _; conv => whnf) | apply And.intro | rfl | exact Nat.le_refl _ | exact fun _ _ => rfl | exact rowEq0 _ _)
end Pv
end Go.Proofs.YtafnkpmoolbjjaaDoor
/- LAW 42, THE WALKS: made conditions. -/
set_option linter.unusedSimpArgs false
set_option linter.unusedVariables false
namespace Go.Proofs.YtafnkpmoolbjjaaDoor
namespace Pv
def c66 : C := (.seq (.reg [⟨(some 2), 32, none, .al [(.int .i64 0), (.int .i64 0)]⟩])
  (.seq (.seq (.reg [⟨(some 3), 48, none, .mv (.t 0)⟩,
    ⟨(some 4), 64, none, .call (.c (.fn (.func 26) [] [])) [(.t 3), (.c (.int .i64 4))]⟩])
  (.block 0 (.seq (.reg [⟨(some 6), 96, none, .bi false .eql (.t 4) (.c (.int .i64 0))⟩,
    ⟨(some 5), 80, none, .mv (.t 6)⟩])
  (.cond (.t 5) (.seq (.reg [⟨(some 7), 112, none, .bd [(.int .i64 0), (.int .i64 0)] [(1, 1, (.c (.int .i64 364)))]⟩,
    ⟨none, 0, none, .st 2 (.t 2) (.t 7)⟩])
  .ret) (.seq (.reg [⟨(some 9), 144, none, .bi false .eql (.t 4) (.c (.int .i64 1))⟩,
    ⟨(some 8), 128, none, .mv (.t 9)⟩])
  (.cond (.t 8) (.seq (.reg [⟨(some 10), 160, none, .mv (.t 0)⟩,
    ⟨(some 11), 176, none, .call (.c (.fn (.func 26) [] [])) [(.t 10), (.c (.int .i64 10))]⟩,
    ⟨(some 12), 192, none, .mv (.t 0)⟩,
    ⟨(some 13), 208, none, .call (.c (.fn (.func 26) [] [])) [(.t 12), (.c (.int .i64 10))]⟩,
    ⟨(some 14), 224, none, .bd [(.int .i64 0), (.int .i64 0)] [(0, 1, (.t 11)), (1, 1, (.t 13))]⟩,
    ⟨none, 0, none, .st 2 (.t 2) (.t 14)⟩])
  .ret) .skip))))))
  (.seq (.reg [⟨(some 15), 240, none, .mv (.t 0)⟩,
    ⟨(some 16), 256, none, .call (.c (.fn (.func 26) [] [])) [(.t 15), (.c (.int .i64 365))]⟩,
    ⟨(some 17), 272, none, .mv (.t 0)⟩,
    ⟨(some 18), 288, none, .call (.c (.fn (.func 26) [] [])) [(.t 17), (.c (.int .i64 365))]⟩,
    ⟨(some 19), 304, none, .bd [(.int .i64 0), (.int .i64 0)] [(0, 1, (.t 16)), (1, 1, (.t 18))]⟩,
    ⟨none, 0, none, .st 2 (.t 2) (.t 19)⟩])
  .ret)))
theorem fits66 : fits Tryd.prog false Tryd.f66 1 20 [(2, some (2, true))] = some c66.er := by kernel_rfl
def c53 : C := (.seq (.reg [⟨(some 2), 32, none, .al [(.int .i64 0), (.int .i64 0), (.int .i64 0), (.int .i64 0), (.int .i64 0), (.int .i64 0), (.int .i64 0)]⟩])
  (.seq (.reg [⟨(some 4), 64, none, .mv (.t 0)⟩,
    ⟨(some 5), 80, none, .call (.c (.fn (.func 26) [] [])) [(.t 4), (.c (.int .i64 4))]⟩,
    ⟨(some 6), 96, none, .bi false .add (.c (.int .i64 1)) (.t 5)⟩,
    ⟨(some 7), 112, none, .mv (.t 0)⟩,
    ⟨(some 8), 128, none, .call (.c (.fn (.func 26) [] [])) [(.t 7), (.c (.int .i64 4))]⟩,
    ⟨(some 9), 144, none, .bi false .add (.c (.int .i64 1)) (.t 8)⟩,
    ⟨(some 10), 160, none, .mv (.t 0)⟩,
    ⟨(some 11), 176, none, .call (.c (.fn (.func 26) [] [])) [(.t 10), (.c (.int .i64 30))]⟩,
    ⟨(some 12), 192, none, .mv (.t 0)⟩,
    ⟨(some 13), 208, none, .call (.c (.fn (.func 66) [] [])) [(.t 12)]⟩,
    ⟨(some 14), 224, none, .bd [(.int .i64 0), (.int .i64 0), (.int .i64 0), (.int .i64 0), (.int .i64 0), (.int .i64 0), (.int .i64 0)] [(0, 1, (.t 6)), (1, 1, (.t 9)), (2, 1, (.t 11)), (3, 2, (.t 13)), (6, 1, (.c (.int .i64 16777216)))]⟩,
    ⟨(some 3), 48, none, .al [(.int .i64 0), (.int .i64 0), (.int .i64 0), (.int .i64 0), (.int .i64 0), (.int .i64 0), (.int .i64 0)]⟩,
    ⟨none, 0, none, .st 7 (.t 3) (.t 14)⟩])
  (.seq (.seq (.reg [⟨(some 15), 240, none, .mv (.t 0)⟩,
    ⟨(some 16), 256, none, .call (.c (.fn (.func 26) [] [])) [(.t 15), (.c (.int .i64 3))]⟩,
    ⟨(some 17), 272, none, .bi false .eql (.t 16) (.c (.int .i64 0))⟩])
  (.cond (.t 17) (.seq (.reg [⟨(some 18), 288, none, .mv (.t 0)⟩,
    ⟨(some 19), 304, none, .call (.c (.fn (.func 26) [] [])) [(.t 18), (.c (.int .i64 60))]⟩,
    ⟨(some 20), 320, none, .bi false .add (.c (.int .i64 90)) (.t 19)⟩,
    ⟨(some 21), 336, none, .fa 5 (.t 3)⟩,
    ⟨none, 0, none, .st 1 (.t 21) (.t 20)⟩])
  (.drw [⟨(some 22), 352, none, .fa 5 (.t 3)⟩,
    ⟨(some 23), 368, none, .ld 1 false (.t 22)⟩,
    ⟨(some 24), 384, none, .mv (.t 0)⟩,
    ⟨(some 25), 400, none, .call (.c (.fn (.func 26) [] [])) [(.t 24), (.c (.int .i64 80))]⟩,
    ⟨(some 26), 416, none, .bi false .add (.t 23) (.t 25)⟩,
    ⟨(some 27), 432, none, .fa 6 (.t 3)⟩,
    ⟨none, 0, none, .st 1 (.t 27) (.t 26)⟩]
    [(0, 2, 22), (0, 3, 22), (1, 2, 23), (1, 3, 23)])) .skip))
  (.seq (.reg [⟨(some 28), 448, none, .ld 7 true (.t 3)⟩,
    ⟨none, 0, none, .st 7 (.t 2) (.t 28)⟩])
  .ret))))
theorem fits53 : fits Tryd.prog false Tryd.f53 1 29 [(2, some (7, true))] = some c53.er := by kernel_rfl
def c37L1 : C := (.seq (.seq (.reg [⟨(some 7), 112, none, .mv (.t 4)⟩,
    ⟨(some 8), 128, none, .bi false .gtr (.t 7) (.c (.int .i64 0))⟩])
  (.cond (.t 8) .skip (.exit 0)))
  (.seq (.block 1 (.reg [⟨(some 11), 176, none, .mv (.t 3)⟩,
    ⟨(some 12), 192, none, .mv (.t 0)⟩,
    ⟨(some 13), 208, none, .call (.c (.fn (.func 53) [] [])) [(.t 12)]⟩,
    ⟨(some 14), 224, none, .bs 105 7 [(.t 13)]⟩,
    ⟨(some 15), 240, none, .app 105 7 56 (.t 11) (.t 14)⟩,
    ⟨(some 3), 48, none, .mv (.t 15)⟩]))
  (.reg [⟨(some 9), 144, none, .mv (.t 4)⟩,
    ⟨(some 10), 160, none, .bi false .sub (.t 9) (.c (.int .i64 1))⟩,
    ⟨(some 4), 64, none, .mv (.t 10)⟩])))
def c37 : C := (.seq (.reg [⟨(some 2), 32, none, .mv (.c (.nil 7))⟩])
  (.seq (.reg [⟨(some 3), 48, none, .mv (.c (.nil 7))⟩])
  (.seq (.seq (.reg [⟨(some 5), 80, none, .mv (.t 0)⟩,
    ⟨(some 6), 96, none, .call (.c (.fn (.func 26) [] [])) [(.t 5), (.c (.int .i64 7))]⟩,
    ⟨(some 4), 64, none, .mv (.t 6)⟩])
  (.block 0 (.loop c37L1)))
  (.seq (.reg [⟨(some 16), 256, none, .mv (.t 3)⟩,
    ⟨(some 2), 32, none, .mv (.t 16)⟩])
  .ret))))
theorem fits37 : fits Tryd.prog false Tryd.f37 1 17 [(2, none)] = some c37.er := by kernel_rfl
def c19L1 : C := (.seq (.reg [⟨(some 10), 160, none, .bi false .lss (.t 9) (.t 8)⟩])
  (.seq (.cond (.t 10) .skip (.exit 0))
  (.seq (.block 1 (.reg [⟨(some 11), 176, none, .mv (.t 5)⟩,
    ⟨(some 12), 192, none, .mv (.t 0)⟩,
    ⟨(some 13), 208, none, .call (.c (.fn (.func 37) [] [])) [(.t 12)]⟩,
    ⟨(some 14), 224, none, .bs 46 1 [(.t 13)]⟩,
    ⟨(some 15), 240, none, .app 46 1 24 (.t 11) (.t 14)⟩,
    ⟨(some 5), 80, none, .mv (.t 15)⟩]))
  (.reg [⟨(some 16), 256, none, .bi false .add (.t 9) (.c (.int .i64 1))⟩,
    ⟨(some 9), 144, none, .mv (.t 16)⟩]))))
def c19 : C := (.seq (.reg [⟨(some 3), 48, none, .bx 3 (.t 1)⟩,
    ⟨(some 4), 64, none, .mv (.c (.nil 1))⟩])
  (.seq (.reg [⟨(some 5), 80, none, .mv (.c (.nil 1))⟩])
  (.seq (.seq (.reg [⟨(some 6), 96, none, .fa 2 (.t 3)⟩,
    ⟨(some 7), 112, none, .ld 1 false (.t 6)⟩,
    ⟨(some 8), 128, none, .len (.t 7)⟩,
    ⟨(some 9), 144, none, .mv (.c (.int .i64 0))⟩])
  (.block 0 (.loop c19L1)))
  (.seq (.reg [⟨(some 17), 272, none, .mv (.t 5)⟩,
    ⟨(some 4), 64, none, .mv (.t 17)⟩])
  .ret))))
theorem fits19 : fits Tryd.prog false Tryd.f19 2 18 [(4, none)] = some c19.er := by kernel_rfl
def spanF (d : Dk) : (Int × Int) × Dk :=
  let e := nxtD d 4
  if nxt d 4 = 0 then ((0, 364), e) else if nxt d 4 = 1 then ((nxt e 10, nxt (nxtD e 10) 10), nxtD (nxtD e 10) 10) else ((nxt e 365, nxt (nxtD e 365) 365), nxtD (nxtD e 365) 365)
def condF (d : Dk) : Cd × Dk :=
  let d1 := nxtD d 4
  let d2 := nxtD d1 4
  let d3 := nxtD d2 30
  let s := spanF d3
  let d5 := nxtD s.2 3
  if nxt s.2 3 = 0 then (⟨1 + nxt d 4, 1 + nxt d1 4, nxt d2 30, s.1.1, s.1.2, 90 + nxt d5 60, 90 + nxt d5 60 + nxt (nxtD d5 60) 80⟩, nxtD (nxtD d5 60) 80)
  else (⟨1 + nxt d 4, 1 + nxt d1 4, nxt d2 30, s.1.1, s.1.2, 0, 16777216⟩, d5)
def condN (s : List Cd × Dk) : List Cd × Dk := (s.1 ++ [(condF s.2).1], (condF s.2).2)
def condsF (d : Dk) : List Cd × Dk := it condN (nxt d 7).toNat ([], nxtD d 7)
def listN (s : List (List Cd) × Dk) : List (List Cd) × Dk := (s.1 ++ [(condsF s.2).1], (condsF s.2).2)
def listsF (n : Nat) (d : Dk) : List (List Cd) × Dk := it listN n ([], d)
theorem spanF_ok (d : Dk) : (0 ≤ (spanF d).1.1 ∧ (spanF d).1.1 ≤ 364 ∧ 0 ≤ (spanF d).1.2 ∧ (spanF d).1.2 ≤ 364) ∧ (spanF d).2.at_ ≤ d.at_ + 3 := by
  unfold spanF
  dsimp only
  have a0 := nxtD_at d 4
  generalize nxtD d 4 = e at a0 ⊢
  split
  · dsimp only; omega
  split
  · have r1 := nxt_lt e (n := 10) (by omega)
    have a1 := nxtD_at e 10
    generalize nxtD e 10 = e1 at a1 ⊢
    have r2 := nxt_lt e1 (n := 10) (by omega)
    have a2 := nxtD_at e1 10
    dsimp only; omega
  · have r1 := nxt_lt e (n := 365) (by omega)
    have a1 := nxtD_at e 365
    generalize nxtD e 365 = e1 at a1 ⊢
    have r2 := nxt_lt e1 (n := 365) (by omega)
    have a2 := nxtD_at e1 365
    dsimp only; omega
structure CondOK (c : Cd) : Prop where
  r : 1 ≤ c.r ∧ c.r ≤ 4
  k : 1 ≤ c.k ∧ c.k ≤ 4
  v : 0 ≤ c.v ∧ c.v ≤ 29
  f : 0 ≤ c.f ∧ c.f ≤ 364
  u : 0 ≤ c.u ∧ c.u ≤ 364
  a : 0 ≤ c.a ∧ c.a ≤ 149
  ab : c.a ≤ c.b
  b : c.b ≤ 16777216
theorem condF_ok (d : Dk) : CondOK (condF d).1 ∧ (condF d).2.at_ ≤ d.at_ + 9 := by
  unfold condF
  dsimp only
  have r0 := nxt_lt d (n := 4) (by omega)
  have a0 := nxtD_at d 4
  generalize nxtD d 4 = d1 at a0 ⊢
  have r1 := nxt_lt d1 (n := 4) (by omega)
  have a1 := nxtD_at d1 4
  generalize nxtD d1 4 = d2 at a1 ⊢
  have r2 := nxt_lt d2 (n := 30) (by omega)
  have a2 := nxtD_at d2 30
  generalize nxtD d2 30 = d3 at a2 ⊢
  obtain ⟨⟨s1, s2, s3, s4⟩, s5⟩ := spanF_ok d3
  generalize spanF d3 = S at s1 s2 s3 s4 s5 ⊢
  have a3 := nxtD_at S.2 3
  generalize nxtD S.2 3 = d5 at a3 ⊢
  split
  · have r4 := nxt_lt d5 (n := 60) (by omega)
    have a4 := nxtD_at d5 60
    generalize nxtD d5 60 = d6 at a4 ⊢
    have r5 := nxt_lt d6 (n := 80) (by omega)
    have a5 := nxtD_at d6 80
    refine ⟨⟨?_, ?_, ?_, ?_, ?_, ?_, ?_, ?_⟩, ?_⟩ <;> dsimp only <;> omega
  · refine ⟨⟨?_, ?_, ?_, ?_, ?_, ?_, ?_, ?_⟩, ?_⟩ <;> dsimp only <;> omega
theorem getD_pushC {α : Type} [Inhabited α] {P : α → Prop} {l : List α} {x : α} (h : ∀ i, i < l.length → P (l.getD i default)) (hx : P x) : ∀ i, i < (l ++ [x]).length → P ((l ++ [x]).getD i default) := fun i hi => by
  rw [List.length_append, List.length_cons, List.length_nil] at hi
  by_cases hi2 : i < l.length
  · have := h i hi2
    rw [List.getD_eq_getElem?_getD] at this ⊢
    rw [List.getElem?_append_left hi2]; exact this
  · have hi3 : i = l.length := by omega
    subst hi3
    rw [List.getD_eq_getElem?_getD, List.getElem?_append_right (Nat.le_refl _), Nat.sub_self]
    exact hx
theorem condI_ok : ∀ (n : Nat) (s : List Cd × Dk), (∀ i, i < s.1.length → CondOK (s.1.getD i default)) →
    (it condN n s).1.length = s.1.length + n ∧ (∀ i, i < (it condN n s).1.length → CondOK ((it condN n s).1.getD i default)) ∧ (it condN n s).2.at_ ≤ s.2.at_ + 9 * n
  | 0, s, h => ⟨rfl, h, Nat.le_refl _⟩
  | n + 1, s, h => by
    have h1 := condF_ok s.2
    have ih := condI_ok n (condN s) (getD_pushC h h1.1)
    have e1 : (condN s).1.length = s.1.length + 1 := by simp [condN]
    have e2 : (condN s).2 = (condF s.2).2 := rfl
    unfold it
    rw [e1, e2] at ih
    exact ⟨by omega, ih.2.1, by omega⟩
theorem condsF_ok (d : Dk) : (condsF d).1.length ≤ 6 ∧ (∀ i, i < (condsF d).1.length → CondOK ((condsF d).1.getD i default)) ∧ (condsF d).2.at_ ≤ d.at_ + 55 := by
  have r1 := nxt_lt d (n := 7) (by omega)
  have a1 := nxtD_at d 7
  have h := condI_ok (nxt d 7).toNat ([], nxtD d 7) (fun i hi => absurd hi (Nat.not_lt_zero _))
  unfold condsF
  simp only [List.length_nil] at h
  generalize it condN (nxt d 7).toNat ([], nxtD d 7) = W at h ⊢
  exact ⟨by omega, h.2.1, by omega⟩
theorem listI_ok : ∀ (n : Nat) (s : List (List Cd) × Dk), (∀ i, i < s.1.length → (s.1.getD i default).length ≤ 6) →
    (it listN n s).1.length = s.1.length + n ∧ (∀ i, i < (it listN n s).1.length → ((it listN n s).1.getD i default).length ≤ 6) ∧ (it listN n s).2.at_ ≤ s.2.at_ + 55 * n
  | 0, s, h => ⟨rfl, h, Nat.le_refl _⟩
  | n + 1, s, h => by
    have h1 := condsF_ok s.2
    have ih := listI_ok n (listN s) (getD_pushC (P := fun l : List Cd => l.length ≤ 6) h h1.1)
    have e1 : (listN s).1.length = s.1.length + 1 := by simp [listN]
    have e2 : (listN s).2 = (condsF s.2).2 := rfl
    unfold it
    rw [e1, e2] at ih
    exact ⟨by omega, ih.2.1, by omega⟩
theorem listsF_ok (n : Nat) (d : Dk) : (listsF n d).1.length = n ∧ (∀ i, i < (listsF n d).1.length → ((listsF n d).1.getD i default).length ≤ 6) ∧ (listsF n d).2.at_ ≤ d.at_ + 55 * n := by
  have h := listI_ok n ([], d) (fun i hi => absurd hi (Nat.not_lt_zero _))
  unfold listsF
  simp only [List.length_nil] at h
  generalize it listN n ([], d) = W at h ⊢
  exact ⟨by omega, h.2.1, by omega⟩
set_option maxRecDepth 100000 in
set_option maxHeartbeats 8000000 in
theorem call66 (d : Dk) (hd : d.at_ ≤ 990000000) : PureCall Tryd.prog 66 [.pt 0 0 0] [.box (eDk 1 d)] ⟨.agg [.int .i64 (spanF d).1.1, .int .i64 (spanF d).1.2], [.box (eDk 1 (spanF d).2)], []⟩ := by
  refine pure_call mix Tryd.func66 fits66 rfl ?_
  conv => whnf
  refine ⟨_, fun _ => call_next 1 d 4 (by omega) (by omega), ?_⟩
  unfold spanF
  dsimp only
  have a0 := nxtD_at d 4
  generalize nxt d 4 = k
  generalize nxtD d 4 = e at a0 ⊢
  conv => whnf
  refine ⟨?_, fun hc => ?_, fun hc => ?_⟩
  · (try conv => whnf)
    (repeat' (first | exact True.intro | exact fun _ h => h | refine inR64_of ?_ ?_ | apply And.intro | refine maxLen_ge ?_)) <;> (first | omega | (dsimp only; omega))
  · have hk : k = 0 := beq_iff_eq.1 hc
    subst hk
    rw [if_pos rfl]
    conv => whnf
    refine ⟨?_, [], ?_⟩
    · (try conv => whnf)
      (repeat' (first | exact True.intro | exact fun _ h => h | refine inR64_of ?_ ?_ | apply And.intro | refine maxLen_ge ?_)) <;> (first | omega | (dsimp only; omega))
    conv => whnf
    refine ⟨rfl, ?_, ?_, trivial⟩
    all_goals repeat' (first | exact True.intro | refine leF_cons rfl ?_ ?_ | refine leS_cons rfl ?_ ?_ | (show PLe _ _ _ _; conv => whnf) | (show SLe _ _ _ _; conv => whnf) | (show PLeL _ _ _ _; conv => whnf) | apply And.intro | rfl | exact Nat.le_refl _ | exact fun _ _ => rfl | exact rowEq0 _ _)
  have hk : ¬ k = 0 := beq_eq_false_iff_ne.1 hc
  rw [if_neg hk]
  conv => whnf
  refine ⟨trivial, fun hc2 => ?_, fun hc2 => ?_⟩
  · have hk2 : k = 1 := beq_iff_eq.1 hc2
    rw [if_pos hk2]
    conv => whnf
    refine ⟨_, fun _ => call_next 1 e 10 (by omega) (by omega), ?_⟩
    have a1 := nxtD_at e 10
    generalize nxtD e 10 = e1 at a1 ⊢
    conv => whnf
    refine ⟨_, fun _ => call_next 1 e1 10 (by omega) (by omega), ?_⟩
    conv => whnf
    refine ⟨?_, [], ?_⟩
    · (try conv => whnf)
      (repeat' (first | exact True.intro | exact fun _ h => h | refine inR64_of ?_ ?_ | apply And.intro | refine maxLen_ge ?_)) <;> (first | omega | (dsimp only; omega))
    conv => whnf
    refine ⟨rfl, ?_, ?_, trivial⟩
    all_goals repeat' (first | exact True.intro | refine leF_cons rfl ?_ ?_ | refine leS_cons rfl ?_ ?_ | (show PLe _ _ _ _; conv => whnf) | (show SLe _ _ _ _; conv => whnf) | (show PLeL _ _ _ _; conv => whnf) | apply And.intro | rfl | exact Nat.le_refl _ | exact fun _ _ => rfl | exact rowEq0 _ _)
  · have hk2 : ¬ k = 1 := beq_eq_false_iff_ne.1 hc2
    rw [if_neg hk2]
    conv => whnf
    refine ⟨_, fun _ => call_next 1 e 365 (by omega) (by omega), ?_⟩
    have a1 := nxtD_at e 365
    generalize nxtD e 365 = e1 at a1 ⊢
    conv => whnf
    refine ⟨_, fun _ => call_next 1 e1 365 (by omega) (by omega), ?_⟩
    conv => whnf
    refine ⟨?_, [], ?_⟩
    · (try conv => whnf)
      (repeat' (first | exact True.intro | exact fun _ h => h | refine inR64_of ?_ ?_ | apply And.intro | refine maxLen_ge ?_)) <;> (first | omega | (dsimp only; omega))
    conv => whnf
    refine ⟨rfl, ?_, ?_, trivial⟩
    all_goals repeat' (first | exact True.intro | refine leF_cons rfl ?_ ?_ | refine leS_cons rfl ?_ ?_ | (show PLe _ _ _ _; conv => whnf) | (show SLe _ _ _ _; conv => whnf) | (show PLeL _ _ _ _; conv => whnf) | apply And.intro | rfl | exact Nat.le_refl _ | exact fun _ _ => rfl | exact rowEq0 _ _)
set_option maxRecDepth 100000 in
set_option maxHeartbeats 8000000 in
theorem call53 (d : Dk) (hd : d.at_ ≤ 980000000) : PureCall Tryd.prog 53 [.pt 0 0 0] [.box (eDk 1 d)] ⟨.agg (eCd (condF d).1), [.box (eDk 1 (condF d).2)], []⟩ := by
  refine pure_call mix Tryd.func53 fits53 rfl ?_
  unfold condF
  dsimp only
  conv => whnf
  refine ⟨_, fun _ => call_next 1 d 4 (by omega) (by omega), ?_⟩
  have r0 := nxt_lt d (n := 4) (by omega)
  have a0 := nxtD_at d 4
  generalize nxt d 4 = n0 at r0 ⊢
  generalize nxtD d 4 = d1 at a0 ⊢
  conv => whnf
  refine ⟨_, fun _ => call_next 1 d1 4 (by omega) (by omega), ?_⟩
  have r1 := nxt_lt d1 (n := 4) (by omega)
  have a1 := nxtD_at d1 4
  generalize nxt d1 4 = n1 at r1 ⊢
  generalize nxtD d1 4 = d2 at a1 ⊢
  conv => whnf
  refine ⟨_, fun _ => call_next 1 d2 30 (by omega) (by omega), ?_⟩
  have r2 := nxt_lt d2 (n := 30) (by omega)
  have a2 := nxtD_at d2 30
  generalize nxt d2 30 = n2 at r2 ⊢
  generalize nxtD d2 30 = d3 at a2 ⊢
  conv => whnf
  refine ⟨_, fun _ => call66 d3 (by omega), ?_⟩
  have s5 := (spanF_ok d3).2
  generalize spanF d3 = S at s5 ⊢
  obtain ⟨⟨f, u⟩, d4⟩ := S
  dsimp only at s5 ⊢
  conv => whnf
  refine ⟨_, fun _ => call_next 1 d4 3 (by omega) (by omega), ?_⟩
  have a3 := nxtD_at d4 3
  generalize nxt d4 3 = n3
  generalize nxtD d4 3 = d5 at a3 ⊢
  conv => whnf
  refine ⟨?_, fun hc => ?_, fun hc => ?_⟩
  · (try conv => whnf)
    (repeat' (first | exact True.intro | exact fun _ h => h | refine inR64_of ?_ ?_ | apply And.intro | refine maxLen_ge ?_)) <;> (first | omega | (dsimp only; omega))
  · have hk : n3 = 0 := beq_iff_eq.1 hc
    rw [if_pos hk]
    conv => whnf
    refine ⟨_, fun _ => call_next 1 d5 60 (by omega) (by omega), ?_⟩
    have r4 := nxt_lt d5 (n := 60) (by omega)
    have a4 := nxtD_at d5 60
    generalize nxt d5 60 = n4 at r4 ⊢
    generalize nxtD d5 60 = d6 at a4 ⊢
    conv => whnf
    refine ⟨_, fun _ => call_next 1 d6 80 (by omega) (by omega), ?_⟩
    have r5 := nxt_lt d6 (n := 80) (by omega)
    generalize nxt d6 80 = n5 at r5 ⊢
    generalize nxtD d6 80 = d7
    conv => whnf
    refine ⟨rfl, ?_⟩
    conv => whnf
    refine ⟨?_, [], ?_⟩
    · (try conv => whnf)
      (repeat' (first | exact True.intro | exact fun _ h => h | refine inR64_of ?_ ?_ | apply And.intro | refine maxLen_ge ?_)) <;> (first | omega | (dsimp only; omega))
    conv => whnf
    refine ⟨rfl, ?_, ?_, trivial⟩
    all_goals repeat' (first | exact True.intro | refine leF_cons rfl ?_ ?_ | refine leS_cons rfl ?_ ?_ | (show PLe _ _ _ _; conv => whnf) | (show SLe _ _ _ _; conv => whnf) | (show PLeL _ _ _ _; conv => whnf) | apply And.intro | rfl | exact Nat.le_refl _ | exact fun _ _ => rfl | exact rowEq0 _ _)
  · have hk : ¬ n3 = 0 := beq_eq_false_iff_ne.1 hc
    rw [if_neg hk]
    conv => whnf
    refine ⟨?_, [], ?_⟩
    · (try conv => whnf)
      (repeat' (first | exact True.intro | exact fun _ h => h | refine inR64_of ?_ ?_ | apply And.intro | refine maxLen_ge ?_)) <;> (first | omega | (dsimp only; omega))
    conv => whnf
    refine ⟨rfl, ?_, ?_, trivial⟩
    all_goals repeat' (first | exact True.intro | refine leF_cons rfl ?_ ?_ | refine leS_cons rfl ?_ ?_ | (show PLe _ _ _ _; conv => whnf) | (show SLe _ _ _ _; conv => whnf) | (show PLeL _ _ _ _; conv => whnf) | apply And.intro | rfl | exact Nat.le_refl _ | exact fun _ _ => rfl | exact rowEq0 _ _)
set_option maxRecDepth 100000 in
set_option maxHeartbeats 8000000 in
theorem call37 (d : Dk) (hd : d.at_ ≤ 970000000) : PureCall Tryd.prog 37 [.pt 0 0 0] [.box (eDk 1 d)] ⟨.sl 0 7 (condsF d).1.length (fl eCd (condsF d).1), [.box (eDk 1 (condsF d).2)], []⟩ := by
  refine pure_call mix Tryd.func37 fits37 rfl ?_
  conv => whnf
  refine ⟨_, fun _ => call_next 1 d 7 (by omega) (by omega), ?_⟩
  have r0 := nxt_lt d (n := 7) (by omega)
  have a0 := nxtD_at d 7
  unfold condsF
  obtain ⟨m0, hm0⟩ : ∃ m : Nat, (m : Int) = nxt d 7 := ⟨(nxt d 7).toNat, by omega⟩
  rw [← hm0] at r0 ⊢
  rw [Int.toNat_natCast]
  generalize nxtD d 7 = d0 at a0 ⊢
  conv => whnf
  refine ⟨?_, ?_⟩
  · (try conv => whnf)
    (repeat' (first | exact True.intro | exact fun _ h => h | refine inR64_of ?_ ?_ | apply And.intro | refine maxLen_ge ?_)) <;> (first | omega | (dsimp only; omega))
  refine LSem.adopt 3 1000000 105 7 7 rfl rfl ?_
  refine LSem.loop (n := 17) mix (α := Nat × List Cd × Dk) (fun s => s.1 + s.2.1.length = m0 ∧ it condN s.1 s.2 = it condN m0 ([], d0) ∧ s.2.2.at_ ≤ 970000001 + 9 * s.2.1.length)
    (fun s => [(0, .pt 0 0 0), (3, .os 1000000), (4, .int .i64 s.1)])
    (fun s => [(0, .box (eDk 1 s.2.2)), (1000000, .row 0 105 7 s.2.1.length (fl eCd s.2.1))]) (fun s => s.1) (m0, [], d0) ?_ ?_ ?_
  · exact ⟨rfl, rfl, by dsimp only; omega⟩
  · refine ⟨rfl, rfl, ?_, ?_⟩
    all_goals repeat' (first | exact True.intro | refine leF_cons rfl ?_ ?_ | refine leS_cons rfl ?_ ?_ | (show PLe _ _ _ _; conv => whnf) | (show SLe _ _ _ _; conv => whnf) | (show PLeL _ _ _ _; conv => whnf) | apply And.intro | rfl | exact Nat.le_refl _ | exact fun _ _ => rfl | exact rowEq0 _ _)
  · intro s hs
    obtain ⟨m, l, e⟩ := s
    obtain ⟨k1, k2, k3⟩ := hs
    dsimp only at k1 k2 k3
    conv => whnf
    refine ⟨trivial, fun hc => ?_, fun hc => ?_⟩
    · replace hc := of_decide_eq_true hc
      obtain ⟨m, rfl⟩ : ∃ m', m = m' + 1 := ⟨m - 1, by
        have h : (0 : Int) < m := hc
        omega⟩
      have hvs := condF_ok e
      have hst : it condN m (l ++ [(condF e).1], (condF e).2) = it condN m0 ([], d0) := k2
      have q := fl_push eCd l (condF e).1
      have hxl : (l ++ [(condF e).1]).length = l.length + 1 := by simp
      conv => whnf
      refine ⟨_, fun _ => call53 e (by omega), ?_⟩
      generalize condF e = W at hvs hst q hxl ⊢
      conv => whnf
      refine ⟨?_, (m, l ++ [W.1], W.2), ⟨?_, hst, ?_⟩, ?_, rfl, rfl, ?_, ?_⟩
      · (try conv => whnf)
        (repeat' (first | exact True.intro | exact fun _ h => h | refine inR64_of ?_ ?_ | apply And.intro | refine maxLen_ge ?_)) <;> (first | omega | decide | (dsimp only; omega) | (dsimp only [List.length_cons, List.length_nil]; omega) | (intro hg; rw [hg]; rfl) | (intro hg hh; rw [hg, hh]; rfl) | (intro hg; simp [-List.getD_eq_getElem?_getD, -Int.default_eq_zero] at hg; first | omega | (refine inR64_of ?_ ?_ <;> omega) | (constructor <;> omega)) | (simp [-List.getD_eq_getElem?_getD, -Int.default_eq_zero]; done))
      · dsimp only; rw [hxl]; omega
      · dsimp only; rw [hxl]; omega
      · dsimp only; omega
      all_goals repeat' (first | exact True.intro | refine leF_cons rfl ?_ ?_ | refine leS_cons rfl ?_ ?_ | (show PLe _ _ _ _; conv => whnf) | (show SLe _ _ _ _; conv => whnf) | (show PLeL _ _ _ _; conv => whnf) | apply And.intro | rfl | exact Nat.le_refl _ | exact fun _ _ => rfl | exact rowEq0 _ _)
      all_goals first | exact q | (dsimp only; rw [hxl]; rfl) | (dsimp only; rw [hxl]; done) | (dsimp only; omega) | omega | skip
    · replace hc := of_decide_eq_false hc
      have h0 : m = 0 := by
        have h : ¬ (0 : Int) < m := hc
        omega
      subst h0
      have hp : (l, e) = it condN m0 ([], d0) := k2
      rw [← hp]
      conv => whnf
      refine ⟨?_, [], ?_⟩
      · (try conv => whnf)
        (repeat' (first | exact True.intro | exact fun _ h => h | refine inR64_of ?_ ?_ | apply And.intro | refine maxLen_ge ?_)) <;> (first | omega | (dsimp only; omega))
      conv => whnf
      refine ⟨rfl, ?_, ?_, trivial⟩
      all_goals repeat' (first | exact True.intro | refine leF_cons rfl ?_ ?_ | refine leS_cons rfl ?_ ?_ | (show PLe _ _ _ _; conv => whnf) | (show SLe _ _ _ _; conv => whnf) | (show PLeL _ _ _ _; conv => whnf) | apply And.intro | rfl | exact Nat.le_refl _ | exact fun _ _ => rfl | exact rowEq0 _ _)
set_option maxRecDepth 100000 in
set_option maxHeartbeats 8000000 in
theorem call19 (d : Dk) (N : Int) (τ τ' n m : Nat) (g f : Nat → List PV) (hd : d.at_ ≤ 900000000) (hm : m ≤ 1000) : PureCall Tryd.prog 19 [.pt 0 0 0, .agg [.int .i64 N, .sl τ' 4 n g, .sl τ 10 m f]] [.box (eDk 1 d)]
    ⟨.sl 0 1 (listsF m d).1.length (fl (eCs 0) (listsF m d).1), [.box (eDk 1 (listsF m d).2)], []⟩ := by
  refine pure_call mix Tryd.func19 fits19 rfl ?_
  unfold listsF
  conv => whnf
  refine ⟨trivial, ?_⟩
  refine LSem.adopt 5 1000000 46 1 1 rfl rfl ?_
  refine LSem.loop (n := 18) mix (α := Nat × List (List Cd) × Dk) (fun s => s.1 + s.2.1.length = m ∧ it listN s.1 s.2 = it listN m ([], d) ∧ s.2.2.at_ ≤ 900000000 + 55 * s.2.1.length)
    (fun s => [(0, .pt 0 0 0), (5, .os 1000000), (8, .int .i64 m), (9, .int .i64 s.2.1.length)])
    (fun s => [(0, .box (eDk 1 s.2.2)), (1000000, .row 0 46 1 s.2.1.length (fl (eCs 0) s.2.1))]) (fun s => s.1) (m, [], d) ?_ ?_ ?_
  · exact ⟨rfl, rfl, by dsimp only; omega⟩
  · refine ⟨rfl, rfl, ?_, ?_⟩
    all_goals repeat' (first | exact True.intro | refine leF_cons rfl ?_ ?_ | refine leS_cons rfl ?_ ?_ | (show PLe _ _ _ _; conv => whnf) | (show SLe _ _ _ _; conv => whnf) | (show PLeL _ _ _ _; conv => whnf) | apply And.intro | rfl | exact Nat.le_refl _ | exact fun _ _ => rfl | exact rowEq0 _ _)
  · intro s hs
    obtain ⟨q, l, e⟩ := s
    obtain ⟨k1, k2, k3⟩ := hs
    dsimp only at k1 k2 k3
    conv => whnf
    refine ⟨trivial, fun hc => ?_, fun hc => ?_⟩
    · replace hc := of_decide_eq_true hc
      obtain ⟨q, rfl⟩ : ∃ q', q = q' + 1 := ⟨q - 1, by
        have h : (l.length : Int) < m := hc
        omega⟩
      have hvs := condsF_ok e
      have hst : it listN q (l ++ [(condsF e).1], (condsF e).2) = it listN m ([], d) := k2
      have qq := fl_push (eCs 0) l (condsF e).1
      have hxl : (l ++ [(condsF e).1]).length = l.length + 1 := by simp
      conv => whnf
      refine ⟨_, fun _ => call37 e (by omega), ?_⟩
      generalize condsF e = W at hvs hst qq hxl ⊢
      conv => whnf
      refine ⟨?_, (q, l ++ [W.1], W.2), ⟨?_, hst, ?_⟩, ?_, rfl, rfl, ?_, ?_⟩
      · (try conv => whnf)
        (repeat' (first | exact True.intro | exact fun _ h => h | refine inR64_of ?_ ?_ | apply And.intro | refine maxLen_ge ?_)) <;> (first | omega | decide | (dsimp only; omega) | (dsimp only [List.length_cons, List.length_nil]; omega) | (intro hg; rw [hg]; rfl) | (intro hg hh; rw [hg, hh]; rfl) | (intro hg; simp [-List.getD_eq_getElem?_getD, -Int.default_eq_zero] at hg; first | omega | (refine inR64_of ?_ ?_ <;> omega) | (constructor <;> omega)) | (simp [-List.getD_eq_getElem?_getD, -Int.default_eq_zero]; done))
      · dsimp only; rw [hxl]; omega
      · dsimp only; rw [hxl]; omega
      · dsimp only; omega
      all_goals repeat' (first | exact True.intro | refine leF_cons rfl ?_ ?_ | refine leS_cons rfl ?_ ?_ | (show PLe _ _ _ _; conv => whnf) | (show SLe _ _ _ _; conv => whnf) | (show PLeL _ _ _ _; conv => whnf) | apply And.intro | rfl | exact Nat.le_refl _ | exact fun _ _ => rfl | exact rowEq0 _ _)
      all_goals first | exact qq | (dsimp only; rw [hxl]; rfl) | (dsimp only; rw [hxl]; done) | (dsimp only; rw [hxl]; omega) | (dsimp only; omega) | omega | skip
    · replace hc := of_decide_eq_false hc
      have h0 : q = 0 := by
        have h : ¬ (l.length : Int) < m := hc
        omega
      subst h0
      have hp : (l, e) = it listN m ([], d) := k2
      rw [← hp]
      conv => whnf
      refine ⟨?_, [], ?_⟩
      · (try conv => whnf)
        (repeat' (first | exact True.intro | exact fun _ h => h | refine inR64_of ?_ ?_ | apply And.intro | refine maxLen_ge ?_)) <;> (first | omega | (dsimp only; omega))
      conv => whnf
      refine ⟨rfl, ?_, ?_, trivial⟩
      all_goals repeat' (first | exact True.intro | refine leF_cons rfl ?_ ?_ | refine leS_cons rfl ?_ ?_ | (show PLe _ _ _ _; conv => whnf) | (show SLe _ _ _ _; conv => whnf) | (show PLeL _ _ _ _; conv => whnf) | apply And.intro | rfl | exact Nat.le_refl _ | exact fun _ _ => rfl | exact rowEq0 _ _)
end Pv
end Go.Proofs.YtafnkpmoolbjjaaDoor
/- CURVES: what the document's answer computes of them; curves that are made. (Assembled out of law 02's texts by mkmkc.py.) -/
set_option linter.unusedSimpArgs false
set_option linter.unusedVariables false
namespace Go.Proofs.YtafnkpmoolbjjaaDoor
namespace Pv
def c93 : C := (.seq (.reg [⟨(some 4), 64, none, .mv (.c (.bool false))⟩])
  (.seq (.reg [⟨(some 5), 80, none, .mv (.t 0)⟩,
    ⟨(some 6), 96, none, .bi false .geq (.t 5) (.c (.int .i64 0))⟩,
    ⟨(some 7), 112, none, .mv (.t 6)⟩,
    ⟨(some 8), 128, (some (7, true)), .mv (.t 0)⟩,
    ⟨(some 9), 144, (some (7, true)), .mv (.t 1)⟩,
    ⟨(some 10), 160, (some (7, true)), .bi false .leq (.t 8) (.t 9)⟩,
    ⟨(some 11), 176, none, .pick (.t 7) (.t 10) (.c (.bool false))⟩,
    ⟨(some 4), 64, none, .mv (.t 11)⟩])
  .ret))
theorem fits93 : fits Tryd.prog false Tryd.f93 2 12 [(4, none)] = some c93.er := by kernel_rfl
def c80 : C := (.seq (.reg [⟨(some 4), 64, none, .mv (.c (.bool false))⟩])
  (.seq (.reg [⟨(some 5), 80, none, .mv (.t 0)⟩,
    ⟨(some 6), 96, none, .mv (.t 1)⟩,
    ⟨(some 7), 112, none, .call (.c (.fn (.func 93) [] [])) [(.t 5), (.t 6)]⟩,
    ⟨(some 4), 64, none, .mv (.t 7)⟩])
  .ret))
theorem fits80 : fits Tryd.prog false Tryd.f80 2 8 [(4, none)] = some c80.er := by kernel_rfl
def c81L1 : C := (.seq (.reg [⟨(some 16), 256, none, .bi false .lss (.t 15) (.t 14)⟩])
  (.seq (.cond (.t 16) .skip (.exit 0))
  (.seq (.block 1 (.seq (.reg [⟨(some 17), 272, none, .mv (.t 15)⟩,
    ⟨(some 18), 288, none, .ia 2 (.t 13) (.t 15)⟩,
    ⟨(some 19), 304, none, .ld 2 true (.t 18)⟩,
    ⟨(some 4), 64, none, .al [(.int .i64 0), (.int .i64 0)]⟩,
    ⟨(some 3), 48, none, .mv (.t 17)⟩,
    ⟨none, 0, none, .st 2 (.t 4) (.t 19)⟩])
  (.seq (.seq (.reg [⟨(some 20), 320, none, .fa 0 (.t 4)⟩,
    ⟨(some 21), 336, none, .ld 1 false (.t 20)⟩,
    ⟨(some 22), 352, none, .call (.c (.fn (.func 80) [] [])) [(.t 21), (.c (.int .i64 1073741824))]⟩,
    ⟨(some 23), 368, none, .un false .not (.t 22)⟩,
    ⟨(some 24), 384, none, .mv (.t 23)⟩,
    ⟨(some 25), 400, (some (24, false)), .fa 1 (.t 4)⟩,
    ⟨(some 26), 416, (some (24, false)), .ld 1 false (.t 25)⟩,
    ⟨(some 27), 432, (some (24, false)), .call (.c (.fn (.func 80) [] [])) [(.t 26), (.c (.int .i64 274877906944))]⟩,
    ⟨(some 28), 448, (some (24, false)), .un false .not (.t 27)⟩,
    ⟨(some 29), 464, none, .pick (.t 24) (.c (.bool true)) (.t 28)⟩])
  (.cond (.t 29) (.seq (.reg [⟨(some 2), 32, none, .mv (.c (.int .i64 1))⟩])
  .ret) .skip))
  (.seq (.seq (.reg [⟨(some 30), 480, none, .mv (.t 3)⟩,
    ⟨(some 31), 496, none, .bi false .eql (.t 30) (.c (.int .i64 0))⟩])
  (.cond (.t 31) (.exit 1) .skip))
  (.seq (.drw [⟨(some 32), 512, none, .fa 0 (.t 4)⟩,
    ⟨(some 33), 528, none, .ld 1 false (.t 32)⟩,
    ⟨(some 34), 544, none, .mv (.t 0)⟩,
    ⟨(some 35), 560, none, .mv (.t 3)⟩,
    ⟨(some 36), 576, none, .bi false .sub (.t 35) (.c (.int .i64 1))⟩,
    ⟨(some 37), 592, none, .ia 2 (.t 34) (.t 36)⟩,
    ⟨(some 38), 608, none, .fa 0 (.t 37)⟩,
    ⟨(some 39), 624, none, .ld 1 false (.t 38)⟩,
    ⟨(some 40), 640, none, .bi false .sub (.t 33) (.t 39)⟩,
    ⟨(some 41), 656, none, .fa 1 (.t 4)⟩,
    ⟨(some 42), 672, none, .ld 1 false (.t 41)⟩,
    ⟨(some 43), 688, none, .mv (.t 0)⟩,
    ⟨(some 44), 704, none, .mv (.t 3)⟩,
    ⟨(some 45), 720, none, .bi false .sub (.t 44) (.c (.int .i64 1))⟩,
    ⟨(some 46), 736, none, .ia 2 (.t 43) (.t 45)⟩,
    ⟨(some 47), 752, none, .fa 1 (.t 46)⟩,
    ⟨(some 48), 768, none, .ld 1 false (.t 47)⟩,
    ⟨(some 49), 784, none, .bi false .sub (.t 42) (.t 48)⟩,
    ⟨(some 5), 80, none, .mv (.t 40)⟩,
    ⟨(some 6), 96, none, .mv (.t 49)⟩]
    [(0, 2, 32), (0, 3, 32), (0, 4, 32), (0, 5, 32), (0, 6, 32), (0, 7, 32), (0, 9, 32), (0, 10, 32), (0, 11, 32), (0, 12, 32), (0, 13, 32), (0, 14, 32), (0, 15, 32), (0, 16, 32), (0, 17, 32), (1, 2, 33), (1, 3, 33), (1, 4, 33), (1, 5, 33), (1, 6, 33), (1, 7, 33), (1, 9, 33), (1, 10, 33), (1, 11, 33), (1, 12, 33), (1, 13, 33), (1, 14, 33), (1, 15, 33), (1, 16, 33), (1, 17, 33), (2, 3, 34), (2, 4, 34), (2, 9, 34), (2, 10, 34), (2, 11, 34), (2, 12, 34), (2, 13, 34), (2, 14, 34), (2, 15, 34), (2, 16, 34), (2, 17, 34), (3, 9, 35), (3, 10, 35), (3, 11, 35), (3, 12, 35), (3, 13, 35), (3, 14, 35), (3, 15, 35), (3, 16, 35), (3, 17, 35), (4, 9, 36), (4, 10, 36), (4, 11, 36), (4, 12, 36), (4, 13, 36), (4, 14, 36), (4, 15, 36), (4, 16, 36), (4, 17, 36), (5, 9, 37), (5, 10, 37), (5, 11, 37), (5, 12, 37), (5, 13, 37), (5, 14, 37), (5, 15, 37), (5, 16, 37), (5, 17, 37), (6, 9, 38), (6, 10, 38), (6, 11, 38), (6, 12, 38), (6, 13, 38), (6, 14, 38), (6, 15, 38), (6, 16, 38), (6, 17, 38), (7, 9, 39), (7, 10, 39), (7, 11, 39), (7, 12, 39), (7, 13, 39), (7, 14, 39), (7, 15, 39), (7, 16, 39), (7, 17, 39), (8, 9, 40), (8, 10, 40), (8, 11, 40), (8, 12, 40), (8, 13, 40), (8, 14, 40), (8, 15, 40), (8, 16, 40), (8, 17, 40), (9, 11, 41), (9, 12, 41), (9, 13, 41), (9, 14, 41), (9, 15, 41), (9, 16, 41), (9, 18, 41), (10, 11, 42), (10, 12, 42), (10, 13, 42), (10, 14, 42), (10, 15, 42), (10, 16, 42), (10, 18, 42), (11, 12, 43), (11, 13, 43), (11, 18, 43), (12, 18, 44), (13, 18, 45), (14, 18, 46), (15, 18, 47), (16, 18, 48), (17, 18, 49)])
  (.seq (.seq (.reg [⟨(some 50), 800, none, .mv (.t 5)⟩,
    ⟨(some 51), 816, none, .bi false .leq (.t 50) (.c (.int .i64 0))⟩,
    ⟨(some 52), 832, none, .mv (.t 51)⟩,
    ⟨(some 53), 848, (some (52, false)), .mv (.t 6)⟩,
    ⟨(some 54), 864, (some (52, false)), .bi false .lss (.t 53) (.c (.int .i64 0))⟩,
    ⟨(some 55), 880, none, .pick (.t 52) (.c (.bool true)) (.t 54)⟩])
  (.cond (.t 55) (.seq (.reg [⟨(some 2), 32, none, .mv (.c (.int .i64 4))⟩])
  .ret) .skip))
  (.seq (.reg [⟨(some 56), 896, none, .mv (.t 6)⟩,
    ⟨(some 57), 912, none, .mv (.t 5)⟩,
    ⟨(some 58), 928, none, .bi false .quo (.c (.int .i64 4611686018427387904)) (.t 57)⟩,
    ⟨(some 59), 944, none, .bi false .gtr (.t 56) (.t 58)⟩])
  (.cond (.t 59) (.seq (.reg [⟨(some 2), 32, none, .mv (.c (.int .i64 1))⟩])
  .ret) .skip))))))))
  (.reg [⟨(some 60), 960, none, .bi false .add (.t 15) (.c (.int .i64 1))⟩,
    ⟨(some 15), 240, none, .mv (.t 60)⟩]))))
def c81 : C := (.seq (.reg [⟨(some 2), 32, none, .mv (.c (.int .i64 0))⟩])
  (.seq (.seq (.reg [⟨(some 7), 112, none, .mv (.t 0)⟩,
    ⟨(some 8), 128, none, .len (.t 7)⟩,
    ⟨(some 9), 144, none, .bi false .eql (.t 8) (.c (.int .i64 0))⟩])
  (.cond (.t 9) (.seq (.reg [⟨(some 2), 32, none, .mv (.c (.int .i64 3))⟩])
  .ret) .skip))
  (.seq (.seq (.reg [⟨(some 10), 160, none, .mv (.t 0)⟩,
    ⟨(some 11), 176, none, .len (.t 10)⟩,
    ⟨(some 12), 192, none, .bi false .gtr (.t 11) (.c (.int .i64 100))⟩])
  (.cond (.t 12) (.seq (.reg [⟨(some 2), 32, none, .mv (.c (.int .i64 10))⟩])
  .ret) .skip))
  (.seq (.seq (.reg [⟨(some 13), 208, none, .mv (.t 0)⟩,
    ⟨(some 14), 224, none, .len (.t 13)⟩,
    ⟨(some 15), 240, none, .mv (.c (.int .i64 0))⟩])
  (.block 0 (.loop c81L1)))
  (.seq (.reg [⟨(some 2), 32, none, .mv (.c (.int .i64 0))⟩])
  .ret)))))
theorem fits81 : fits Tryd.prog false Tryd.f81 1 61 [(2, none)] = some c81.er := by kernel_rfl
def c82L1 : C := (.seq (.seq (.reg [⟨(some 18), 288, none, .mv (.t 5)⟩,
    ⟨(some 19), 304, none, .mv (.t 0)⟩,
    ⟨(some 20), 320, none, .len (.t 19)⟩,
    ⟨(some 21), 336, none, .bi false .lss (.t 18) (.t 20)⟩])
  (.cond (.t 21) .skip (.exit 0)))
  (.seq (.block 1 (.seq (.reg [⟨(some 24), 384, none, .mv (.t 1)⟩,
    ⟨(some 25), 400, none, .mv (.t 0)⟩,
    ⟨(some 26), 416, none, .mv (.t 5)⟩,
    ⟨(some 27), 432, none, .ia 2 (.t 25) (.t 26)⟩,
    ⟨(some 28), 448, none, .fa 0 (.t 27)⟩,
    ⟨(some 29), 464, none, .ld 1 false (.t 28)⟩,
    ⟨(some 30), 480, none, .bi false .lss (.t 24) (.t 29)⟩])
  (.cond (.t 30) (.seq (.drw [⟨(some 31), 496, none, .mv (.t 0)⟩,
    ⟨(some 32), 512, none, .mv (.t 5)⟩,
    ⟨(some 33), 528, none, .bi false .sub (.t 32) (.c (.int .i64 1))⟩,
    ⟨(some 34), 544, none, .ia 2 (.t 31) (.t 33)⟩,
    ⟨(some 35), 560, none, .ld 2 true (.t 34)⟩,
    ⟨(some 36), 576, none, .mv (.t 0)⟩,
    ⟨(some 37), 592, none, .mv (.t 5)⟩,
    ⟨(some 38), 608, none, .ia 2 (.t 36) (.t 37)⟩,
    ⟨(some 39), 624, none, .ld 2 true (.t 38)⟩,
    ⟨(some 6), 96, none, .al [(.int .i64 0), (.int .i64 0)]⟩,
    ⟨(some 7), 112, none, .al [(.int .i64 0), (.int .i64 0)]⟩,
    ⟨none, 0, none, .st 2 (.t 6) (.t 35)⟩,
    ⟨none, 0, none, .st 2 (.t 7) (.t 39)⟩]
    [(0, 1, 31), (0, 2, 31), (0, 5, 31), (0, 6, 31), (0, 7, 31), (0, 8, 31), (0, 9, 31), (0, 10, 31), (1, 5, 32), (1, 6, 32), (1, 7, 32), (1, 8, 32), (1, 9, 32), (1, 10, 32), (2, 5, 33), (2, 6, 33), (2, 7, 33), (2, 8, 33), (2, 9, 33), (2, 10, 33), (3, 5, 34), (3, 6, 34), (3, 7, 34), (3, 8, 34), (3, 9, 34), (3, 10, 34), (4, 5, 35), (4, 6, 35), (4, 7, 35), (4, 8, 35), (4, 9, 35), (4, 10, 35), (5, 6, 36), (5, 9, 36), (5, 10, 36), (5, 11, 36), (6, 9, 37), (6, 10, 37), (6, 11, 37), (7, 9, 38), (7, 10, 38), (7, 11, 38), (8, 9, 39), (8, 10, 39), (8, 11, 39), (9, 10, 6)])
  (.seq (.drw [⟨(some 40), 640, none, .fa 1 (.t 6)⟩,
    ⟨(some 41), 656, none, .ld 1 false (.t 40)⟩,
    ⟨(some 42), 672, none, .fa 1 (.t 7)⟩,
    ⟨(some 43), 688, none, .ld 1 false (.t 42)⟩,
    ⟨(some 44), 704, none, .fa 1 (.t 6)⟩,
    ⟨(some 45), 720, none, .ld 1 false (.t 44)⟩,
    ⟨(some 46), 736, none, .bi false .sub (.t 43) (.t 45)⟩,
    ⟨(some 47), 752, none, .mv (.t 1)⟩,
    ⟨(some 48), 768, none, .fa 0 (.t 6)⟩,
    ⟨(some 49), 784, none, .ld 1 false (.t 48)⟩,
    ⟨(some 50), 800, none, .bi false .sub (.t 47) (.t 49)⟩,
    ⟨(some 51), 816, none, .bi false .mul (.t 46) (.t 50)⟩,
    ⟨(some 52), 832, none, .fa 0 (.t 7)⟩,
    ⟨(some 53), 848, none, .ld 1 false (.t 52)⟩,
    ⟨(some 54), 864, none, .fa 0 (.t 6)⟩,
    ⟨(some 55), 880, none, .ld 1 false (.t 54)⟩,
    ⟨(some 56), 896, none, .bi false .sub (.t 53) (.t 55)⟩,
    ⟨(some 57), 912, none, .bi false .quo (.t 51) (.t 56)⟩,
    ⟨(some 58), 928, none, .bi false .add (.t 41) (.t 57)⟩,
    ⟨(some 4), 64, none, .mv (.t 58)⟩]
    [(0, 2, 40), (0, 3, 40), (0, 4, 40), (0, 5, 40), (0, 6, 40), (0, 7, 40), (0, 8, 40), (0, 9, 40), (0, 10, 40), (0, 11, 40), (0, 12, 40), (0, 13, 40), (0, 14, 40), (0, 15, 40), (0, 16, 40), (0, 17, 40), (1, 2, 41), (1, 3, 41), (1, 4, 41), (1, 5, 41), (1, 6, 41), (1, 7, 41), (1, 8, 41), (1, 9, 41), (1, 10, 41), (1, 11, 41), (1, 12, 41), (1, 13, 41), (1, 14, 41), (1, 15, 41), (1, 16, 41), (1, 17, 41), (2, 4, 42), (2, 5, 42), (2, 7, 42), (2, 8, 42), (2, 9, 42), (2, 10, 42), (2, 12, 42), (2, 13, 42), (2, 14, 42), (2, 15, 42), (2, 16, 42), (3, 4, 43), (3, 5, 43), (3, 7, 43), (3, 8, 43), (3, 9, 43), (3, 10, 43), (3, 12, 43), (3, 13, 43), (3, 14, 43), (3, 15, 43), (3, 16, 43), (4, 7, 44), (4, 8, 44), (4, 9, 44), (4, 10, 44), (4, 12, 44), (4, 13, 44), (4, 14, 44), (4, 15, 44), (4, 16, 44), (5, 7, 45), (5, 8, 45), (5, 9, 45), (5, 10, 45), (5, 12, 45), (5, 13, 45), (5, 14, 45), (5, 15, 45), (5, 16, 45), (6, 7, 46), (6, 8, 46), (6, 9, 46), (6, 10, 46), (6, 12, 46), (6, 13, 46), (6, 14, 46), (6, 15, 46), (6, 16, 46), (7, 8, 47), (7, 9, 47), (7, 12, 47), (7, 13, 47), (7, 14, 47), (7, 15, 47), (7, 16, 47), (8, 12, 48), (8, 13, 48), (8, 14, 48), (8, 15, 48), (8, 16, 48), (9, 12, 49), (9, 13, 49), (9, 14, 49), (9, 15, 49), (9, 16, 49), (10, 12, 50), (10, 13, 50), (10, 14, 50), (10, 15, 50), (10, 16, 50), (11, 12, 51), (11, 13, 51), (11, 14, 51), (11, 15, 51), (11, 16, 51), (12, 14, 52), (12, 15, 52), (13, 14, 53), (13, 15, 53)])
  .ret)) .skip)))
  (.reg [⟨(some 22), 352, none, .mv (.t 5)⟩,
    ⟨(some 23), 368, none, .bi false .add (.t 22) (.c (.int .i64 1))⟩,
    ⟨(some 5), 80, none, .mv (.t 23)⟩])))
def c82 : C := (.seq (.reg [⟨(some 4), 64, none, .mv (.c (.int .i64 0))⟩])
  (.seq (.seq (.reg [⟨(some 8), 128, none, .mv (.t 1)⟩,
    ⟨(some 9), 144, none, .mv (.t 0)⟩,
    ⟨(some 10), 160, none, .ia 2 (.t 9) (.c (.int .i64 0))⟩,
    ⟨(some 11), 176, none, .fa 0 (.t 10)⟩,
    ⟨(some 12), 192, none, .ld 1 false (.t 11)⟩,
    ⟨(some 13), 208, none, .bi false .leq (.t 8) (.t 12)⟩])
  (.cond (.t 13) (.seq (.reg [⟨(some 14), 224, none, .mv (.t 0)⟩,
    ⟨(some 15), 240, none, .ia 2 (.t 14) (.c (.int .i64 0))⟩,
    ⟨(some 16), 256, none, .fa 1 (.t 15)⟩,
    ⟨(some 17), 272, none, .ld 1 false (.t 16)⟩,
    ⟨(some 4), 64, none, .mv (.t 17)⟩])
  .ret) .skip))
  (.seq (.seq (.reg [⟨(some 5), 80, none, .mv (.c (.int .i64 1))⟩])
  (.block 0 (.loop c82L1)))
  (.seq (.reg [⟨(some 59), 944, none, .mv (.t 0)⟩,
    ⟨(some 60), 960, none, .mv (.t 0)⟩,
    ⟨(some 61), 976, none, .len (.t 60)⟩,
    ⟨(some 62), 992, none, .bi false .sub (.t 61) (.c (.int .i64 1))⟩,
    ⟨(some 63), 1008, none, .ia 2 (.t 59) (.t 62)⟩,
    ⟨(some 64), 1024, none, .fa 1 (.t 63)⟩,
    ⟨(some 65), 1040, none, .ld 1 false (.t 64)⟩,
    ⟨(some 4), 64, none, .mv (.t 65)⟩])
  .ret))))
theorem fits82 : fits Tryd.prog false Tryd.f82 2 66 [(4, none)] = some c82.er := by kernel_rfl
def c65 : C := (.seq (.reg [⟨(some 4), 64, none, .mv (.c (.int .i64 0))⟩,
    ⟨(some 5), 80, none, .mv (.c (.int .i64 0))⟩])
  (.seq (.seq (.reg [⟨(some 7), 112, none, .mv (.t 0)⟩,
    ⟨(some 8), 128, none, .call (.c (.fn (.func 81) [] [])) [(.t 7)]⟩,
    ⟨(some 6), 96, none, .mv (.t 8)⟩])
  (.seq (.reg [⟨(some 9), 144, none, .mv (.t 6)⟩,
    ⟨(some 10), 160, none, .bi false .neq (.t 9) (.c (.int .i64 0))⟩])
  (.cond (.t 10) (.seq (.reg [⟨(some 11), 176, none, .mv (.t 6)⟩,
    ⟨(some 4), 64, none, .mv (.c (.int .i64 0))⟩,
    ⟨(some 5), 80, none, .mv (.t 11)⟩])
  .ret) .skip)))
  (.seq (.reg [⟨(some 12), 192, none, .mv (.t 0)⟩,
    ⟨(some 13), 208, none, .mv (.t 1)⟩,
    ⟨(some 14), 224, none, .call (.c (.fn (.func 82) [] [])) [(.t 12), (.t 13)]⟩,
    ⟨(some 4), 64, none, .mv (.t 14)⟩,
    ⟨(some 5), 80, none, .mv (.c (.int .i64 0))⟩])
  .ret)))
theorem fits65 : fits Tryd.prog false Tryd.f65 2 15 [(4, none), (5, none)] = some c65.er := by kernel_rfl
def c60L1 : C := (.seq (.seq (.reg [⟨(some 24), 384, none, .mv (.t 15)⟩,
    ⟨(some 25), 400, none, .bi false .gtr (.t 24) (.c (.int .i64 0))⟩])
  (.cond (.t 25) .skip (.exit 0)))
  (.seq (.block 1 (.seq (.reg [⟨(some 28), 448, none, .mv (.t 1)⟩,
    ⟨(some 29), 464, none, .bi false .add (.t 28) (.c (.int .i64 1))⟩,
    ⟨(some 30), 480, none, .mv (.t 0)⟩,
    ⟨(some 31), 496, none, .mv (.t 3)⟩,
    ⟨(some 32), 512, none, .call (.c (.fn (.func 26) [] [])) [(.t 30), (.t 31)]⟩,
    ⟨(some 33), 528, none, .bi false .add (.t 29) (.t 32)⟩,
    ⟨(some 34), 544, none, .mv (.t 2)⟩,
    ⟨(some 35), 560, none, .mv (.t 13)⟩,
    ⟨(some 36), 576, none, .bi false .add (.t 34) (.t 35)⟩,
    ⟨(some 37), 592, none, .mv (.t 0)⟩,
    ⟨(some 38), 608, none, .mv (.t 4)⟩,
    ⟨(some 39), 624, none, .call (.c (.fn (.func 26) [] [])) [(.t 37), (.t 38)]⟩,
    ⟨(some 40), 640, none, .bi false .add (.t 36) (.t 39)⟩,
    ⟨(some 1), 16, none, .mv (.t 33)⟩,
    ⟨(some 2), 32, none, .mv (.t 40)⟩])
  (.reg [⟨(some 41), 656, none, .mv (.t 14)⟩,
    ⟨(some 42), 672, none, .mv (.t 1)⟩,
    ⟨(some 43), 688, none, .mv (.t 2)⟩,
    ⟨(some 44), 704, none, .bd [(.int .i64 0), (.int .i64 0)] [(0, 1, (.t 42)), (1, 1, (.t 43))]⟩,
    ⟨(some 45), 720, none, .bs 135 2 [(.t 44)]⟩,
    ⟨(some 46), 736, none, .app 135 2 16 (.t 41) (.t 45)⟩,
    ⟨(some 14), 224, none, .mv (.t 46)⟩])))
  (.reg [⟨(some 26), 416, none, .mv (.t 15)⟩,
    ⟨(some 27), 432, none, .bi false .sub (.t 26) (.c (.int .i64 1))⟩,
    ⟨(some 15), 240, none, .mv (.t 27)⟩])))
def c60 : C := (.seq (.reg [⟨(some 12), 192, none, .mv (.c (.nil 2))⟩])
  (.seq (.reg [⟨(some 13), 208, none, .mv (.c (.int .i64 0))⟩])
  (.seq (.seq (.reg [⟨(some 16), 256, none, .mv (.t 5)⟩])
  (.cond (.t 16) (.reg [⟨(some 13), 208, none, .mv (.c (.int .i64 1))⟩]) .skip))
  (.seq (.reg [⟨(some 17), 272, none, .mv (.t 1)⟩,
    ⟨(some 18), 288, none, .mv (.t 2)⟩,
    ⟨(some 19), 304, none, .bd [(.int .i64 0), (.int .i64 0)] [(0, 1, (.t 17)), (1, 1, (.t 18))]⟩,
    ⟨(some 20), 320, none, .bs 135 2 [(.t 19)]⟩,
    ⟨(some 14), 224, none, .mv (.t 20)⟩])
  (.seq (.seq (.reg [⟨(some 21), 336, none, .mv (.t 0)⟩,
    ⟨(some 22), 352, none, .call (.c (.fn (.func 26) [] [])) [(.t 21), (.c (.int .i64 4))]⟩,
    ⟨(some 23), 368, none, .bi false .add (.c (.int .i64 1)) (.t 22)⟩,
    ⟨(some 15), 240, none, .mv (.t 23)⟩])
  (.block 0 (.loop c60L1)))
  (.seq (.reg [⟨(some 47), 752, none, .mv (.t 14)⟩,
    ⟨(some 12), 192, none, .mv (.t 47)⟩])
  .ret))))))
theorem fits60 : fits Tryd.prog false Tryd.f60 6 48 [(12, none)] = some c60.er := by kernel_rfl
structure Pt where
  x : Int
  y : Int
  deriving Inhabited, DecidableEq
def ePt (p : Pt) : List PV := [.int .i64 p.x, .int .i64 p.y]
def steepF (dx dy : Int) : Bool := decide (0 < dx ∧ dy > 4611686018427387904 / dx)
def errC (c : List Pt) (i : Nat) : Int :=
  if ¬ (0 ≤ (c.getD i default).x ∧ (c.getD i default).x ≤ 1073741824) ∨ ¬ (0 ≤ (c.getD i default).y ∧ (c.getD i default).y ≤ 274877906944) then 1
  else if i = 0 then 0
  else if (c.getD i default).x ≤ (c.getD (i - 1) default).x ∨ (c.getD i default).y < (c.getD (i - 1) default).y then 4
  else if steepF ((c.getD i default).x - (c.getD (i - 1) default).x) ((c.getD i default).y - (c.getD (i - 1) default).y) = true then 1 else 0
def checkC (c : List Pt) : Int := if c.length = 0 then 3 else if c.length > 100 then 10 else scan (errC c) 0 c.length
structure GoodC (c : List Pt) : Prop where
  ne : 0 < c.length
  le : c.length ≤ 100
  rng : ∀ i, i < c.length → 0 ≤ (c.getD i default).x ∧ (c.getD i default).x ≤ 1073741824 ∧ 0 ≤ (c.getD i default).y ∧ (c.getD i default).y ≤ 274877906944
  up : ∀ i, 0 < i → i < c.length → (c.getD (i - 1) default).x < (c.getD i default).x ∧ (c.getD (i - 1) default).y ≤ (c.getD i default).y ∧
    ((c.getD i default).y - (c.getD (i - 1) default).y) * ((c.getD i default).x - (c.getD (i - 1) default).x) ≤ 4611686018427387904
theorem errC_zero (c : List Pt) (i : Nat) : errC c i = 0 ↔ (0 ≤ (c.getD i default).x ∧ (c.getD i default).x ≤ 1073741824 ∧ 0 ≤ (c.getD i default).y ∧ (c.getD i default).y ≤ 274877906944) ∧ (0 < i → (c.getD (i - 1) default).x < (c.getD i default).x ∧ (c.getD (i - 1) default).y ≤ (c.getD i default).y ∧
    ((c.getD i default).y - (c.getD (i - 1) default).y) * ((c.getD i default).x - (c.getD (i - 1) default).x) ≤ 4611686018427387904) := by
  unfold errC
  by_cases h1 : ¬ (0 ≤ (c.getD i default).x ∧ (c.getD i default).x ≤ 1073741824) ∨ ¬ (0 ≤ (c.getD i default).y ∧ (c.getD i default).y ≤ 274877906944)
  · rw [if_pos h1]; constructor
    · intro h; cases h
    · intro h; omega
  rw [if_neg h1]
  by_cases h2 : i = 0
  · rw [if_pos h2]; constructor
    · intro _; exact ⟨by omega, fun h => by omega⟩
    · intro _; rfl
  rw [if_neg h2]
  by_cases h3 : (c.getD i default).x ≤ (c.getD (i - 1) default).x ∨ (c.getD i default).y < (c.getD (i - 1) default).y
  · rw [if_pos h3]; constructor
    · intro h; cases h
    · intro h; have := h.2 (by omega); omega
  rw [if_neg h3]
  have hpos : 0 < (c.getD i default).x - (c.getD (i - 1) default).x := by omega
  have key := Int.le_ediv_iff_mul_le (a := (c.getD i default).y - (c.getD (i - 1) default).y) (b := 4611686018427387904) hpos
  unfold steepF
  by_cases h4 : 0 < (c.getD i default).x - (c.getD (i - 1) default).x ∧ (c.getD i default).y - (c.getD (i - 1) default).y > 4611686018427387904 / ((c.getD i default).x - (c.getD (i - 1) default).x)
  · rw [if_pos (decide_eq_true h4)]; constructor
    · intro h; cases h
    · intro h; have := (h.2 (by omega)).2.2; have := key.2 this; omega
  · rw [if_neg (by rw [decide_eq_false h4]; decide)]; constructor
    · intro _; exact ⟨by omega, fun _ => ⟨by omega, by omega, key.1 (by omega)⟩⟩
    · intro _; rfl
theorem scan_allz {f : Nat → Int} : ∀ {i n : Nat}, (∀ k, i ≤ k → k < i + n → f k = 0) → scan f i n = 0
  | i, 0, _ => rfl
  | i, n + 1, h => by
    rw [scan_step (by omega) (h i (by omega) (by omega))]
    exact scan_allz fun k h1 h2 => h k (by omega) (by omega)
theorem check_good (c : List Pt) : checkC c = 0 ↔ GoodC c := by
  unfold checkC
  by_cases h1 : c.length = 0
  · rw [if_pos h1]; constructor
    · intro h; cases h
    · intro h; have := h.ne; omega
  rw [if_neg h1]
  by_cases h2 : c.length > 100
  · rw [if_pos h2]; constructor
    · intro h; cases h
    · intro h; have := h.le; omega
  rw [if_neg h2]
  constructor
  · intro h
    have hz := fun i (hi : i < c.length) => (errC_zero c i).1 (scan_zero h i (by omega) (by omega))
    exact ⟨by omega, by omega, fun i hi => (hz i hi).1, fun i h0 hi => (hz i hi).2 h0⟩
  · intro h
    exact scan_allz fun k _ hk => (errC_zero c k).2 ⟨h.rng k (by omega), fun h0 => h.up k h0 (by omega)⟩
def lineF (p q : Pt) (x : Int) : Int := q.y + ((p.y - q.y) * (x - q.x)) / (p.x - q.x)
def valA (c : List Pt) (x : Int) : Nat → Nat → Int
  | _, 0 => (c.getD (c.length - 1) default).y
  | i, n + 1 => if x ≤ (c.getD i default).x then (if i = 0 then (c.getD i default).y else lineF (c.getD i default) (c.getD (i - 1) default) x) else valA c x (i + 1) n
def valC (c : List Pt) (x : Int) : Int := valA c x 0 c.length
theorem prod_le {a b A B : Int} (h0 : 0 ≤ a) (h1 : a ≤ A) (h2 : 0 ≤ b) (h3 : b ≤ B) (h : A * B ≤ 4611686018427387904) : 0 ≤ a * b ∧ a * b ≤ 4611686018427387904 := by
  have := mul_rng h0 h1 h2 h3; omega
def atC (c : List Pt) (x : Int) : Int × Int := if checkC c = 0 then (valC c x, 0) else (0, checkC c)
theorem fl_one {α : Type} [Inhabited α] (e : α → List PV) (x : α) : RowEq 1 (fun i => [e x].getD i []) (fl e [x]) := fun i hi => by
  have : i = 0 := by omega
  subst this; rfl
structure Cst where
  L : List Pt
  x : Int
  y : Int
  d : Dk
def crvN (dx dy least : Int) (s : Cst) : Cst := ⟨s.L ++ [⟨s.x + 1 + nxt s.d dx, s.y + least + nxt (nxtD s.d dx) dy⟩], s.x + 1 + nxt s.d dx, s.y + least + nxt (nxtD s.d dx) dy, nxtD (nxtD s.d dx) dy⟩
def crvS (dx dy least : Int) : Nat → Cst → Cst
  | 0, s => s
  | k + 1, s => crvS dx dy least k (crvN dx dy least s)
def curveS (d : Dk) (x y dx dy least : Int) : Cst := crvS dx dy least (1 + nxt d 4).toNat ⟨[⟨x, y⟩], x, y, nxtD d 4⟩
theorem GoodC.xs {c : List Pt} (h : GoodC c) : ∀ (d i : Nat), i + d < c.length → (c.getD i default).x ≤ (c.getD (i + d) default).x
  | 0, i, _ => Int.le_refl _
  | d + 1, i, hi => by
    have h1 := GoodC.xs h d i (by omega)
    have h2 := h.up (i + d + 1) (by omega) hi
    rw [Nat.add_sub_cancel] at h2
    rw [show i + (d + 1) = i + d + 1 from rfl]; omega
theorem GoodC.ys {c : List Pt} (h : GoodC c) : ∀ (d i : Nat), i + d < c.length → (c.getD i default).y ≤ (c.getD (i + d) default).y
  | 0, i, _ => Int.le_refl _
  | d + 1, i, hi => by
    have h1 := GoodC.ys h d i (by omega)
    have h2 := h.up (i + d + 1) (by omega) hi
    rw [Nat.add_sub_cancel] at h2
    rw [show i + (d + 1) = i + d + 1 from rfl]; omega
theorem valA_skip {c : List Pt} {x : Int} : ∀ (m i : Nat), i + m ≤ c.length → (∀ j, i ≤ j → j < i + m → (c.getD j default).x < x) → valA c x i (c.length - i) = valA c x (i + m) (c.length - (i + m))
  | 0, i, _, _ => rfl
  | m + 1, i, hi, h => by
    have h1 := h i (by omega) (by omega)
    have e : valA c x i (c.length - i) = valA c x (i + 1) (c.length - (i + 1)) := by
      rw [show c.length - i = (c.length - (i + 1)) + 1 by omega]
      show (if x ≤ (c.getD i default).x then _ else _) = _
      rw [if_neg (by omega)]
    rw [e, valA_skip m (i + 1) (by omega) (fun j h1 h2 => h j (by omega) (by omega))]
    rw [show i + 1 + m = i + (m + 1) by omega]
theorem val_lo {c : List Pt} (h : GoodC c) {x : Int} (hx : x ≤ (c.getD 0 default).x) : valC c x = (c.getD 0 default).y := by
  have := h.ne
  unfold valC
  rw [show c.length = (c.length - 1) + 1 by omega]
  show (if x ≤ (c.getD 0 default).x then _ else _) = _
  rw [if_pos hx]; rfl
theorem val_seg' {c : List Pt} (h : GoodC c) {x : Int} {k : Nat} (h0 : 0 < k) (hk : k < c.length) (h1 : (c.getD (k - 1) default).x < x) (h2 : x ≤ (c.getD k default).x) : valC c x = lineF (c.getD k default) (c.getD (k - 1) default) x := by
  unfold valC
  have := valA_skip (c := c) (x := x) k 0 (by omega) (fun j _ hj => by
    have := h.xs (k - 1 - j) j (by omega)
    rw [show j + (k - 1 - j) = k - 1 by omega] at this; omega)
  rw [Nat.sub_zero, Nat.zero_add] at this
  rw [this, show c.length - k = (c.length - (k + 1)) + 1 by omega]
  show (if x ≤ (c.getD k default).x then (if k = 0 then _ else _) else _) = _
  rw [if_pos h2, if_neg (by omega)]
theorem line_lo (p q : Pt) : lineF p q q.x = q.y := by unfold lineF; rw [Int.sub_self, Int.mul_zero, Int.zero_ediv, Int.add_zero]
theorem line_hi {p q : Pt} (h : q.x < p.x) : lineF p q p.x = p.y := by
  unfold lineF; rw [Int.mul_ediv_cancel _ (by omega)]; omega
theorem val_seg {c : List Pt} (h : GoodC c) {x : Int} {k : Nat} (h0 : 0 < k) (hk : k < c.length) (h1 : (c.getD (k - 1) default).x ≤ x) (h2 : x ≤ (c.getD k default).x) : valC c x = lineF (c.getD k default) (c.getD (k - 1) default) x := by
  rcases Int.lt_or_eq_of_le h1 with h1 | h1
  · exact val_seg' h h0 hk h1 h2
  · rw [← h1, line_lo]
    by_cases hk1 : k - 1 = 0
    · rw [hk1]; exact val_lo h (Int.le_refl _)
    · have hu := h.up (k - 1) (by omega) (by omega)
      rw [val_seg' h (k := k - 1) (by omega) (by omega) hu.1 (Int.le_refl _), line_hi hu.1]
theorem val_hi {c : List Pt} (h : GoodC c) {x : Int} (hx : (c.getD (c.length - 1) default).x ≤ x) : valC c x = (c.getD (c.length - 1) default).y := by
  have hn := h.ne
  rcases Int.lt_or_eq_of_le hx with h1 | h1
  · unfold valC
    have := valA_skip (c := c) (x := x) c.length 0 (by omega) (fun j _ hj => by
      have := h.xs (c.length - 1 - j) j (by omega)
      rw [show j + (c.length - 1 - j) = c.length - 1 by omega] at this; omega)
    rw [Nat.sub_zero, Nat.zero_add, Nat.sub_self] at this
    rw [this]; rfl
  · rw [← h1]
    by_cases hk1 : c.length - 1 = 0
    · rw [hk1]; exact val_lo h (Int.le_refl _)
    · have hu := h.up (c.length - 1) (by omega) (by omega)
      rw [val_seg' h (k := c.length - 1) (by omega) (by omega) hu.1 (Int.le_refl _), line_hi hu.1]
theorem find_seg {c : List Pt} {x : Int} (h0 : (c.getD 0 default).x ≤ x) : ∀ n, n < c.length → x < (c.getD n default).x → ∃ k, 0 < k ∧ k ≤ n ∧ (c.getD (k - 1) default).x ≤ x ∧ x < (c.getD k default).x
  | 0, _, h => by omega
  | n + 1, hn, h => by
    by_cases hh : x < (c.getD n default).x
    · obtain ⟨k, a, b, c, d⟩ := find_seg h0 n (by omega) hh
      exact ⟨k, a, by omega, c, d⟩
    · exact ⟨n + 1, by omega, Nat.le_refl _, by rw [Nat.add_sub_cancel]; omega, h⟩
theorem line_mono {p q : Pt} (h : q.x < p.x) (hy : q.y ≤ p.y) {x x' : Int} (hx : x ≤ x') : lineF p q x ≤ lineF p q x' := by
  unfold lineF
  have : (p.y - q.y) * (x - q.x) ≤ (p.y - q.y) * (x' - q.x) := Int.mul_le_mul_of_nonneg_left (by omega) (by omega)
  have := Int.ediv_le_ediv (c := p.x - q.x) (by omega) this
  omega
theorem val_mono {c : List Pt} (h : GoodC c) (x : Int) : valC c x ≤ valC c (x + 1) := by
  have hn := h.ne
  by_cases h1 : x < (c.getD 0 default).x
  · rw [val_lo h (by omega), val_lo h (by omega)]; exact Int.le_refl _
  by_cases h2 : (c.getD (c.length - 1) default).x ≤ x
  · rw [val_hi h h2, val_hi h (by omega)]; exact Int.le_refl _
  obtain ⟨k, a, b, h3, h4⟩ := find_seg (c := c) (x := x) (by omega) (c.length - 1) (by omega) (by omega)
  have hu := h.up k a (by omega)
  rw [val_seg h a (by omega) h3 (by omega), val_seg h a (by omega) (by omega) (by omega)]
  exact line_mono hu.1 hu.2.1 (by omega)
structure MadeC (c : List Pt) : Prop where
  len : 2 ≤ c.length ∧ c.length ≤ 5
  rng : ∀ i, i < c.length → 0 ≤ (c.getD i default).x ∧ (c.getD i default).x ≤ 1000 + 1001 * i ∧ 0 ≤ (c.getD i default).y ∧ (c.getD i default).y ≤ 1000 + 1001 * i
  up : ∀ i, 0 < i → i < c.length → (c.getD (i - 1) default).x < (c.getD i default).x ∧ (c.getD i default).x ≤ (c.getD (i - 1) default).x + 1001 ∧ (c.getD (i - 1) default).y ≤ (c.getD i default).y ∧ (c.getD i default).y ≤ (c.getD (i - 1) default).y + 1001
theorem MadeC.good {c : List Pt} (h : MadeC c) : GoodC c := by
  obtain ⟨⟨l1, l2⟩, h1, h2⟩ := h
  refine ⟨by omega, by omega, fun i hi => by have := h1 i hi; omega, fun i h0 hi => ?_⟩
  have h3 := h2 i h0 hi
  have := mul_rng (a := (c.getD i default).y - (c.getD (i - 1) default).y) (b := (c.getD i default).x - (c.getD (i - 1) default).x) (A := 1001) (B := 1001) (by omega) (by omega) (by omega) (by omega)
  exact ⟨by omega, by omega, by omega⟩
theorem getD_push {α : Type} [Inhabited α] (l : List α) (p : α) (i : Nat) : (l ++ [p]).getD i default = if i < l.length then l.getD i default else if i = l.length then p else default := by
  by_cases h : i < l.length
  · rw [if_pos h, List.getD_eq_getElem?_getD, List.getD_eq_getElem?_getD, List.getElem?_append_left h]
  · rw [if_neg h]
    by_cases h2 : i = l.length
    · rw [if_pos h2, h2, List.getD_eq_getElem?_getD, List.getElem?_append_right (Nat.le_refl _)]; simp
    · rw [if_neg h2, List.getD_eq_getElem?_getD, List.getElem?_eq_none (by simp; omega)]; rfl
def CInv (s : Cst) : Prop := 1 ≤ s.L.length ∧ s.L.getD (s.L.length - 1) default = ⟨s.x, s.y⟩ ∧
  (∀ i, i < s.L.length → 0 ≤ (s.L.getD i default).x ∧ (s.L.getD i default).x ≤ 1000 + 1001 * i ∧ 0 ≤ (s.L.getD i default).y ∧ (s.L.getD i default).y ≤ 1000 + 1001 * i) ∧
  (∀ i, 0 < i → i < s.L.length → (s.L.getD (i - 1) default).x < (s.L.getD i default).x ∧ (s.L.getD i default).x ≤ (s.L.getD (i - 1) default).x + 1001 ∧ (s.L.getD (i - 1) default).y ≤ (s.L.getD i default).y ∧ (s.L.getD i default).y ≤ (s.L.getD (i - 1) default).y + 1001)
theorem crvN_inv {dx dy least : Int} (hdx : 1 ≤ dx ∧ dx ≤ 1000) (hdy : 1 ≤ dy ∧ dy ≤ 1000) (hl : 0 ≤ least ∧ least ≤ 1) {s : Cst} (h : CInv s) : CInv (crvN dx dy least s) := by
  obtain ⟨h1, h2, h3, h4⟩ := h
  have r1 := nxt_lt s.d (n := dx) (by omega)
  have r2 := nxt_lt (nxtD s.d dx) (n := dy) (by omega)
  have hlast := h3 (s.L.length - 1) (by omega)
  rw [h2] at hlast
  dsimp only at hlast
  have hlen : (crvN dx dy least s).L.length = s.L.length + 1 := by simp [crvN]
  have hget : ∀ i, (crvN dx dy least s).L.getD i default = if i < s.L.length then s.L.getD i default else if i = s.L.length then ⟨s.x + 1 + nxt s.d dx, s.y + least + nxt (nxtD s.d dx) dy⟩ else default := fun i => getD_push _ _ _
  refine ⟨by omega, ?_, ?_, ?_⟩
  · rw [hget, hlen, Nat.add_sub_cancel, if_neg (by omega), if_pos rfl]; rfl
  · intro i hi
    rw [hlen] at hi
    rw [hget]
    by_cases hh : i < s.L.length
    · rw [if_pos hh]; exact h3 i hh
    · rw [if_neg hh, if_pos (by omega)]; dsimp only; omega
  · intro i h0 hi
    rw [hlen] at hi
    rw [hget, hget]
    by_cases hh : i < s.L.length
    · rw [if_pos hh, if_pos (by omega)]; exact h4 i h0 hh
    · rw [if_neg hh, if_pos (by omega), if_pos (by omega), show i - 1 = s.L.length - 1 by omega, h2]; dsimp only; omega
theorem crvS_inv {dx dy least : Int} (hdx : 1 ≤ dx ∧ dx ≤ 1000) (hdy : 1 ≤ dy ∧ dy ≤ 1000) (hl : 0 ≤ least ∧ least ≤ 1) : ∀ (k : Nat) {s : Cst}, CInv s → CInv (crvS dx dy least k s) ∧ (crvS dx dy least k s).L.length = s.L.length + k ∧ (crvS dx dy least k s).d.at_ ≤ s.d.at_ + 2 * k
  | 0, s, h => ⟨h, rfl, Nat.le_refl _⟩
  | k + 1, s, h => by
    obtain ⟨a, b, c⟩ := crvS_inv hdx hdy hl k (crvN_inv hdx hdy hl h)
    have hlen : (crvN dx dy least s).L.length = s.L.length + 1 := by simp [crvN]
    have h1 := nxtD_at s.d dx
    have h2 := nxtD_at (nxtD s.d dx) dy
    have hd : (crvN dx dy least s).d = nxtD (nxtD s.d dx) dy := rfl
    rw [hd] at c
    exact ⟨a, by show (crvS dx dy least k _).L.length = _; omega, by show (crvS dx dy least k _).d.at_ ≤ _; omega⟩
theorem curve_made (d : Dk) {x y dx dy least : Int} (hx : 0 ≤ x ∧ x ≤ 1000) (hy : 0 ≤ y ∧ y ≤ 1000) (hdx : 1 ≤ dx ∧ dx ≤ 1000) (hdy : 1 ≤ dy ∧ dy ≤ 1000) (hl : 0 ≤ least ∧ least ≤ 1) : MadeC (curveS d x y dx dy least).L ∧ (curveS d x y dx dy least).d.at_ ≤ d.at_ + 9 := by
  have r1 := nxt_lt d (n := 4) (by omega)
  have a1 := nxtD_at d 4
  have h0 : CInv ⟨[⟨x, y⟩], x, y, nxtD d 4⟩ := by
    refine ⟨Nat.le_refl _, rfl, ?_, ?_⟩
    · intro i hi
      have : i = 0 := by simpa using hi
      subst this
      show 0 ≤ x ∧ _ ∧ 0 ≤ y ∧ _
      exact ⟨by omega, by show x ≤ _; omega, by omega, by show y ≤ _; omega⟩
    · intro i h0 hi
      have : i < 1 := by simpa using hi
      omega
  obtain ⟨⟨b1, b2, b3, b4⟩, b5, b6⟩ := crvS_inv hdx hdy hl (1 + nxt d 4).toNat h0
  have e : (1 : Nat) = ([⟨x, y⟩] : List Pt).length := rfl
  dsimp only at b6
  refine ⟨⟨?_, b3, b4⟩, ?_⟩
  · show 2 ≤ (crvS dx dy least _ _).L.length ∧ (crvS dx dy least _ _).L.length ≤ 5
    rw [b5, ← e]; omega
  · show (crvS dx dy least _ _).d.at_ ≤ _; omega
theorem val_rng {c : List Pt} (h : GoodC c) (x : Int) : 0 ≤ valC c x ∧ valC c x ≤ 274877906944 := by
  have hn := h.ne
  by_cases h1 : x < (c.getD 0 default).x
  · rw [val_lo h (by omega)]; have := h.rng 0 hn; omega
  by_cases h2 : (c.getD (c.length - 1) default).x ≤ x
  · rw [val_hi h h2]; have := h.rng (c.length - 1) (by omega); omega
  obtain ⟨k, a, b, h3, h4⟩ := find_seg (c := c) (x := x) (by omega) (c.length - 1) (by omega) (by omega)
  have hu := h.up k a (by omega)
  rw [val_seg h a (by omega) h3 (by omega)]
  have m1 := line_mono hu.1 hu.2.1 h3
  have m2 := line_mono hu.1 hu.2.1 (Int.le_of_lt h4)
  rw [line_lo] at m1; rw [line_hi hu.1] at m2
  have := h.rng k (by omega)
  have := h.rng (k - 1) (by omega)
  omega
theorem call93 (n m : Int) : PureCall Tryd.prog 93 [.int .i64 n, .int .i64 m] [] ⟨.bool (decide (0 ≤ n ∧ n ≤ m)), [], []⟩ := by
  refine pure_call mix Tryd.func93 fits93 rfl ?_
  conv => whnf
  refine ⟨?_, [], ?_⟩
  · (try conv => whnf)
    (repeat' (first | exact True.intro | exact fun _ h => h | refine inR64_of ?_ ?_ | apply And.intro | refine maxLen_ge ?_)) <;> (first | omega | decide | (dsimp only; omega) | (dsimp only [List.length_cons, List.length_nil]; omega) | (intro hg; rw [hg]; rfl) | (intro hg hh; rw [hg, hh]; rfl) | (intro hg; simp [-List.getD_eq_getElem?_getD, -Int.default_eq_zero] at hg; first | omega | (refine inR64_of ?_ ?_ <;> omega) | (constructor <;> omega)) | (simp [-List.getD_eq_getElem?_getD, -Int.default_eq_zero]; done))
  conv => whnf
  refine ⟨rfl, ?_, trivial, trivial⟩
  all_goals repeat' (first | exact True.intro | refine leF_cons rfl ?_ ?_ | refine leS_cons rfl ?_ ?_ | (show PLe _ _ _ _; conv => whnf) | (show SLe _ _ _ _; conv => whnf) | (show PLeL _ _ _ _; conv => whnf) | apply And.intro | rfl | exact Nat.le_refl _ | exact fun _ _ => rfl | exact rowEq0 _ _)
  by_cases h : 0 ≤ n <;> simp [h]
theorem call80 (n m : Int) : PureCall Tryd.prog 80 [.int .i64 n, .int .i64 m] [] ⟨.bool (decide (0 ≤ n ∧ n ≤ m)), [], []⟩ := by
  refine pure_call mix Tryd.func80 fits80 rfl ?_
  conv => whnf
  refine ⟨_, fun _ => call93 n m, ?_⟩
  conv => whnf
  refine ⟨?_, [], ?_⟩
  · (try conv => whnf)
    (repeat' (first | exact True.intro | exact fun _ h => h | refine inR64_of ?_ ?_ | apply And.intro | refine maxLen_ge ?_)) <;> (first | omega | decide | (dsimp only; omega) | (dsimp only [List.length_cons, List.length_nil]; omega) | (intro hg; rw [hg]; rfl) | (intro hg hh; rw [hg, hh]; rfl) | (intro hg; simp [-List.getD_eq_getElem?_getD, -Int.default_eq_zero] at hg; first | omega | (refine inR64_of ?_ ?_ <;> omega) | (constructor <;> omega)) | (simp [-List.getD_eq_getElem?_getD, -Int.default_eq_zero]; done))
  conv => whnf
  refine ⟨rfl, ?_, trivial, trivial⟩
  all_goals repeat' (first | exact True.intro | refine leF_cons rfl ?_ ?_ | refine leS_cons rfl ?_ ?_ | (show PLe _ _ _ _; conv => whnf) | (show SLe _ _ _ _; conv => whnf) | (show PLeL _ _ _ _; conv => whnf) | apply And.intro | rfl | exact Nat.le_refl _ | exact fun _ _ => rfl | exact rowEq0 _ _)
set_option maxRecDepth 100000 in
set_option maxHeartbeats 4000000 in
theorem call81 (τ : Nat) (c : List Pt) : PureCall Tryd.prog 81 [.sl τ 2 c.length (fl ePt c)] [] ⟨.int .i64 (checkC c), [], []⟩ := by
  refine pure_call mix Tryd.func81 fits81 rfl ?_
  conv => whnf
  refine ⟨?_, fun hc => ?_, fun hc => ?_⟩
  · (try conv => whnf)
    (repeat' (first | exact True.intro | exact fun _ h => h | refine inR64_of ?_ ?_ | apply And.intro | refine maxLen_ge ?_)) <;> (first | omega | decide | (dsimp only; omega) | (dsimp only [List.length_cons, List.length_nil]; omega) | (intro hg; rw [hg]; rfl) | (intro hg hh; rw [hg, hh]; rfl) | (intro hg; simp [-List.getD_eq_getElem?_getD, -Int.default_eq_zero] at hg; first | omega | (refine inR64_of ?_ ?_ <;> omega) | (constructor <;> omega)) | (simp [-List.getD_eq_getElem?_getD, -Int.default_eq_zero]; done))
  · simp [-List.getD_eq_getElem?_getD, -Int.default_eq_zero] at hc
    rw [show checkC c = 3 by unfold checkC; rw [if_pos (by rw [hc]; rfl)]]
    conv => whnf
    refine ⟨?_, [], ?_⟩
    · (try conv => whnf)
      (repeat' (first | exact True.intro | exact fun _ h => h | refine inR64_of ?_ ?_ | apply And.intro | refine maxLen_ge ?_)) <;> (first | omega | decide | (dsimp only; omega) | (dsimp only [List.length_cons, List.length_nil]; omega) | (intro hg; rw [hg]; rfl) | (intro hg hh; rw [hg, hh]; rfl) | (intro hg; simp [-List.getD_eq_getElem?_getD, -Int.default_eq_zero] at hg; first | omega | (refine inR64_of ?_ ?_ <;> omega) | (constructor <;> omega)) | (simp [-List.getD_eq_getElem?_getD, -Int.default_eq_zero]; done))
    conv => whnf
    refine ⟨rfl, ?_, trivial, trivial⟩
    all_goals repeat' (first | exact True.intro | refine leF_cons rfl ?_ ?_ | refine leS_cons rfl ?_ ?_ | (show PLe _ _ _ _; conv => whnf) | (show SLe _ _ _ _; conv => whnf) | (show PLeL _ _ _ _; conv => whnf) | apply And.intro | rfl | exact Nat.le_refl _ | exact fun _ _ => rfl | exact rowEq0 _ _)
  simp [-List.getD_eq_getElem?_getD, -Int.default_eq_zero] at hc
  have h0 : ¬ c.length = 0 := by simpa using hc
  conv => whnf
  refine ⟨?_, fun hc => ?_, fun hc => ?_⟩
  · (try conv => whnf)
    (repeat' (first | exact True.intro | exact fun _ h => h | refine inR64_of ?_ ?_ | apply And.intro | refine maxLen_ge ?_)) <;> (first | omega | decide | (dsimp only; omega) | (dsimp only [List.length_cons, List.length_nil]; omega) | (intro hg; rw [hg]; rfl) | (intro hg hh; rw [hg, hh]; rfl) | (intro hg; simp [-List.getD_eq_getElem?_getD, -Int.default_eq_zero] at hg; first | omega | (refine inR64_of ?_ ?_ <;> omega) | (constructor <;> omega)) | (simp [-List.getD_eq_getElem?_getD, -Int.default_eq_zero]; done))
  · replace hc := of_decide_eq_true hc
    rw [show checkC c = 10 by unfold checkC; rw [if_neg h0, if_pos (by omega)]]
    conv => whnf
    refine ⟨?_, [], ?_⟩
    · (try conv => whnf)
      (repeat' (first | exact True.intro | exact fun _ h => h | refine inR64_of ?_ ?_ | apply And.intro | refine maxLen_ge ?_)) <;> (first | omega | decide | (dsimp only; omega) | (dsimp only [List.length_cons, List.length_nil]; omega) | (intro hg; rw [hg]; rfl) | (intro hg hh; rw [hg, hh]; rfl) | (intro hg; simp [-List.getD_eq_getElem?_getD, -Int.default_eq_zero] at hg; first | omega | (refine inR64_of ?_ ?_ <;> omega) | (constructor <;> omega)) | (simp [-List.getD_eq_getElem?_getD, -Int.default_eq_zero]; done))
    conv => whnf
    refine ⟨rfl, ?_, trivial, trivial⟩
    all_goals repeat' (first | exact True.intro | refine leF_cons rfl ?_ ?_ | refine leS_cons rfl ?_ ?_ | (show PLe _ _ _ _; conv => whnf) | (show SLe _ _ _ _; conv => whnf) | (show PLeL _ _ _ _; conv => whnf) | apply And.intro | rfl | exact Nat.le_refl _ | exact fun _ _ => rfl | exact rowEq0 _ _)
  replace hc := of_decide_eq_false hc
  have h1 : ¬ c.length > 100 := by omega
  have hck : checkC c = scan (errC c) 0 c.length := by unfold checkC; rw [if_neg h0, if_neg h1]
  rw [hck]
  conv => whnf
  refine ⟨trivial, ?_⟩
  refine LSem.loop (n := 61) mix (α := Nat) (fun i => i ≤ c.length ∧ scan (errC c) i (c.length - i) = scan (errC c) 0 c.length ∧ ∀ j, j < i → errC c j = 0)
    (fun i => [(0, .sl τ 2 c.length (fl ePt c)), (13, .sl τ 2 c.length (fl ePt c)), (14, .int .i64 c.length), (15, .int .i64 i)])
    (fun _ => []) (fun i => c.length - i) 0 ?_ ?_ ?_
  · exact ⟨Nat.zero_le _, rfl, fun j hj => by omega⟩
  · refine ⟨rfl, rfl, ?_, ?_⟩
    all_goals repeat' (first | exact True.intro | refine leF_cons rfl ?_ ?_ | refine leS_cons rfl ?_ ?_ | (show PLe _ _ _ _; conv => whnf) | (show SLe _ _ _ _; conv => whnf) | (show PLeL _ _ _ _; conv => whnf) | apply And.intro | rfl | exact Nat.le_refl _ | exact fun _ _ => rfl | exact rowEq0 _ _)
  · intro i hi
    obtain ⟨hi, hs, hall⟩ := hi
    have hj : ((i : Int)).toNat = i := by omega
    conv => whnf
    refine ⟨trivial, fun hc => ?_, fun hc => ?_⟩
    · replace hc := of_decide_eq_true hc
      have hlt : i < c.length := by omega
      have hall' : errC c i = 0 → ∀ j, j < i + 1 → errC c j = 0 := fun h j hj => by
        by_cases e : j = i
        · subst e; exact h
        · exact hall j (by omega)
      have herr : errC c i ≠ 0 → scan (errC c) 0 c.length = errC c i := fun h => by rw [← hs]; exact scan_hit (by omega) h
      have hnext : errC c i = 0 → scan (errC c) (i + 1) (c.length - (i + 1)) = scan (errC c) 0 c.length := fun h => by rw [← hs, scan_step (by omega) h]; congr 1
      conv => whnf
      refine ⟨_, fun _ => call80 (c.getD ((i : Int)).toNat default).x 1073741824, ?_⟩
      conv => whnf
      refine ⟨_, fun _ => call80 (c.getD ((i : Int)).toNat default).y 274877906944, ?_⟩
      conv => whnf
      refine ⟨?_, fun hc1 => ?_, fun hc1 => ?_⟩
      · (try conv => whnf)
        (repeat' (first | exact True.intro | exact fun _ h => h | refine inR64_of ?_ ?_ | apply And.intro | refine maxLen_ge ?_)) <;> (first | omega | decide | (dsimp only; omega) | (dsimp only [List.length_cons, List.length_nil]; omega) | (intro hg; rw [hg]; rfl) | (intro hg hh; rw [hg, hh]; rfl) | (intro hg; simp [-List.getD_eq_getElem?_getD, -Int.default_eq_zero] at hg; first | omega | (refine inR64_of ?_ ?_ <;> omega) | (constructor <;> omega)) | (simp [-List.getD_eq_getElem?_getD, -Int.default_eq_zero]; done))
      · have he : errC c i = 1 := by
          rw [hj] at hc1
          unfold errC
          rw [if_pos (by simp only [bif_t, bif_f, decide_eq_true_eq, decide_eq_false_iff_not, Bool.not_eq_true', Bool.not_eq_false', Bool.and_eq_true, Bool.or_eq_true, Bool.and_eq_false_iff, Bool.or_eq_false_iff, beq_iff_eq, bne_iff_ne, beq_eq_false_iff_ne, bne_eq_false_iff_eq, reduceCtorEq, false_and, and_false, true_and, and_true, or_false, false_or, or_true, true_or, not_true_eq_false, not_false_eq_true, Int.toNat_zero] at hc1; omega)]
        rw [herr (by rw [he]; decide), he]
        conv => whnf
        refine ⟨?_, [], ?_⟩
        · (try conv => whnf)
          (repeat' (first | exact True.intro | exact fun _ h => h | refine inR64_of ?_ ?_ | apply And.intro | refine maxLen_ge ?_)) <;> (first | omega | decide | (dsimp only; omega) | (dsimp only [List.length_cons, List.length_nil]; omega) | (intro hg; rw [hg]; rfl) | (intro hg hh; rw [hg, hh]; rfl) | (intro hg; simp [-List.getD_eq_getElem?_getD, -Int.default_eq_zero] at hg; first | omega | (refine inR64_of ?_ ?_ <;> omega) | (constructor <;> omega)) | (simp [-List.getD_eq_getElem?_getD, -Int.default_eq_zero]; done))
        conv => whnf
        refine ⟨rfl, ?_, trivial, trivial⟩
        all_goals repeat' (first | exact True.intro | refine leF_cons rfl ?_ ?_ | refine leS_cons rfl ?_ ?_ | (show PLe _ _ _ _; conv => whnf) | (show SLe _ _ _ _; conv => whnf) | (show PLeL _ _ _ _; conv => whnf) | apply And.intro | rfl | exact Nat.le_refl _ | exact fun _ _ => rfl | exact rowEq0 _ _)
      have hr : (0 ≤ (c.getD i default).x ∧ (c.getD i default).x ≤ 1073741824) ∧ (0 ≤ (c.getD i default).y ∧ (c.getD i default).y ≤ 274877906944) := by
        rw [hj] at hc1
        simp only [bif_t, bif_f, decide_eq_true_eq, decide_eq_false_iff_not, Bool.not_eq_true', Bool.not_eq_false', Bool.and_eq_true, Bool.or_eq_true, Bool.and_eq_false_iff, Bool.or_eq_false_iff, beq_iff_eq, bne_iff_ne, beq_eq_false_iff_ne, bne_eq_false_iff_eq, reduceCtorEq, false_and, and_false, true_and, and_true, or_false, false_or, or_true, true_or, not_true_eq_false, not_false_eq_true, Int.toNat_zero] at hc1
        omega
      conv => whnf
      refine ⟨trivial, fun hc2 => ?_, fun hc2 => ?_⟩
      · have h0 : i = 0 := by simpa using hc2
        conv => whnf
        have he : errC c i = 0 := by unfold errC; rw [if_neg (by omega), if_pos h0]
        refine ⟨?_, i + 1, ⟨by omega, hnext he, hall' he⟩, ?_, rfl, rfl, ?_, ?_⟩
        · (try conv => whnf)
          (repeat' (first | exact True.intro | exact fun _ h => h | refine inR64_of ?_ ?_ | apply And.intro | refine maxLen_ge ?_)) <;> (first | omega | decide | (dsimp only; omega) | (dsimp only [List.length_cons, List.length_nil]; omega) | (intro hg; rw [hg]; rfl) | (intro hg hh; rw [hg, hh]; rfl) | (intro hg; simp [-List.getD_eq_getElem?_getD, -Int.default_eq_zero] at hg; first | omega | (refine inR64_of ?_ ?_ <;> omega) | (constructor <;> omega)) | (simp [-List.getD_eq_getElem?_getD, -Int.default_eq_zero]; done))
        · omega
        all_goals repeat' (first | exact True.intro | refine leF_cons rfl ?_ ?_ | refine leS_cons rfl ?_ ?_ | (show PLe _ _ _ _; conv => whnf) | (show SLe _ _ _ _; conv => whnf) | (show PLeL _ _ _ _; conv => whnf) | apply And.intro | rfl | exact Nat.le_refl _ | exact fun _ _ => rfl | exact rowEq0 _ _)
        all_goals omega
      have h0 : ¬ i = 0 := by simpa using hc2
      have hj1 : ((i : Int) - 1).toNat = i - 1 := by omega
      have hm1 : (0 ≤ (c.getD (i - 1) default).x ∧ (c.getD (i - 1) default).x ≤ 1073741824) ∧ (0 ≤ (c.getD (i - 1) default).y ∧ (c.getD (i - 1) default).y ≤ 274877906944) := by
        have := hall (i - 1) (by omega)
        unfold errC at this
        split at this
        · cases this
        · omega
      conv => whnf
      refine ⟨rfl, ?_⟩
      conv => whnf
      refine ⟨?_, fun hc3 => ?_, fun hc3 => ?_⟩
      · rw [hj, hj1]
        (try conv => whnf)
        (repeat' (first | exact True.intro | exact fun _ h => h | refine inR64_of ?_ ?_ | apply And.intro | refine maxLen_ge ?_)) <;> (first | omega | decide | (dsimp only; omega) | (dsimp only [List.length_cons, List.length_nil]; omega) | (intro hg; rw [hg]; rfl) | (intro hg hh; rw [hg, hh]; rfl) | (intro hg; simp [-List.getD_eq_getElem?_getD, -Int.default_eq_zero] at hg; first | omega | (refine inR64_of ?_ ?_ <;> omega) | (constructor <;> omega)) | (simp [-List.getD_eq_getElem?_getD, -Int.default_eq_zero]; done))
      · have he : errC c i = 4 := by
          rw [hj, hj1] at hc3
          unfold errC
          rw [if_neg (by omega), if_neg h0, if_pos (by simp only [bif_t, bif_f, decide_eq_true_eq, decide_eq_false_iff_not, Bool.not_eq_true', Bool.not_eq_false', Bool.and_eq_true, Bool.or_eq_true, Bool.and_eq_false_iff, Bool.or_eq_false_iff, beq_iff_eq, bne_iff_ne, beq_eq_false_iff_ne, bne_eq_false_iff_eq, reduceCtorEq, false_and, and_false, true_and, and_true, or_false, false_or, or_true, true_or, not_true_eq_false, not_false_eq_true, Int.toNat_zero] at hc3; omega)]
        rw [herr (by rw [he]; decide), he]
        conv => whnf
        refine ⟨?_, [], ?_⟩
        · (try conv => whnf)
          (repeat' (first | exact True.intro | exact fun _ h => h | refine inR64_of ?_ ?_ | apply And.intro | refine maxLen_ge ?_)) <;> (first | omega | decide | (dsimp only; omega) | (dsimp only [List.length_cons, List.length_nil]; omega) | (intro hg; rw [hg]; rfl) | (intro hg hh; rw [hg, hh]; rfl) | (intro hg; simp [-List.getD_eq_getElem?_getD, -Int.default_eq_zero] at hg; first | omega | (refine inR64_of ?_ ?_ <;> omega) | (constructor <;> omega)) | (simp [-List.getD_eq_getElem?_getD, -Int.default_eq_zero]; done))
        conv => whnf
        refine ⟨rfl, ?_, trivial, trivial⟩
        all_goals repeat' (first | exact True.intro | refine leF_cons rfl ?_ ?_ | refine leS_cons rfl ?_ ?_ | (show PLe _ _ _ _; conv => whnf) | (show SLe _ _ _ _; conv => whnf) | (show PLeL _ _ _ _; conv => whnf) | apply And.intro | rfl | exact Nat.le_refl _ | exact fun _ _ => rfl | exact rowEq0 _ _)
      have hle : ¬ ((c.getD i default).x ≤ (c.getD (i - 1) default).x ∨ (c.getD i default).y < (c.getD (i - 1) default).y) := by
        rw [hj, hj1] at hc3
        simp only [bif_t, bif_f, decide_eq_true_eq, decide_eq_false_iff_not, Bool.not_eq_true', Bool.not_eq_false', Bool.and_eq_true, Bool.or_eq_true, Bool.and_eq_false_iff, Bool.or_eq_false_iff, beq_iff_eq, bne_iff_ne, beq_eq_false_iff_ne, bne_eq_false_iff_eq, reduceCtorEq, false_and, and_false, true_and, and_true, or_false, false_or, or_true, true_or, not_true_eq_false, not_false_eq_true, Int.toNat_zero] at hc3
        omega
      have hdiv : Int.tdiv 4611686018427387904 ((c.getD i default).x - (c.getD (i - 1) default).x) = 4611686018427387904 / ((c.getD i default).x - (c.getD (i - 1) default).x) := Int.tdiv_eq_ediv_of_nonneg (by omega)
      have d1 : 0 ≤ 4611686018427387904 / ((c.getD i default).x - (c.getD (i - 1) default).x) := Int.ediv_nonneg (by omega) (by omega)
      have d2 : 4611686018427387904 / ((c.getD i default).x - (c.getD (i - 1) default).x) ≤ 4611686018427387904 := Int.ediv_le_self _ (by omega)
      conv => whnf
      refine ⟨?_, fun hc4 => ?_, fun hc4 => ?_⟩
      · rw [hj, hj1, hdiv]
        (try conv => whnf)
        (repeat' (first | exact True.intro | exact fun _ h => h | refine inR64_of ?_ ?_ | apply And.intro | refine maxLen_ge ?_)) <;> (first | omega | decide | (dsimp only; omega) | (dsimp only [List.length_cons, List.length_nil]; omega) | (intro hg; rw [hg]; rfl) | (intro hg hh; rw [hg, hh]; rfl) | (intro hg; simp [-List.getD_eq_getElem?_getD, -Int.default_eq_zero] at hg; first | omega | (refine inR64_of ?_ ?_ <;> omega) | (constructor <;> omega)) | (simp [-List.getD_eq_getElem?_getD, -Int.default_eq_zero]; done))
      · replace hc4 := of_decide_eq_true hc4
        rw [hj, hj1, hdiv] at hc4
        have he : errC c i = 1 := by
          unfold errC
          rw [if_neg (by omega), if_neg h0, if_neg hle, if_pos (by unfold steepF; exact decide_eq_true ⟨by omega, hc4⟩)]
        rw [herr (by rw [he]; decide), he]
        conv => whnf
        refine ⟨?_, [], ?_⟩
        · (try conv => whnf)
          (repeat' (first | exact True.intro | exact fun _ h => h | refine inR64_of ?_ ?_ | apply And.intro | refine maxLen_ge ?_)) <;> (first | omega | decide | (dsimp only; omega) | (dsimp only [List.length_cons, List.length_nil]; omega) | (intro hg; rw [hg]; rfl) | (intro hg hh; rw [hg, hh]; rfl) | (intro hg; simp [-List.getD_eq_getElem?_getD, -Int.default_eq_zero] at hg; first | omega | (refine inR64_of ?_ ?_ <;> omega) | (constructor <;> omega)) | (simp [-List.getD_eq_getElem?_getD, -Int.default_eq_zero]; done))
        conv => whnf
        refine ⟨rfl, ?_, trivial, trivial⟩
        all_goals repeat' (first | exact True.intro | refine leF_cons rfl ?_ ?_ | refine leS_cons rfl ?_ ?_ | (show PLe _ _ _ _; conv => whnf) | (show SLe _ _ _ _; conv => whnf) | (show PLeL _ _ _ _; conv => whnf) | apply And.intro | rfl | exact Nat.le_refl _ | exact fun _ _ => rfl | exact rowEq0 _ _)
      · replace hc4 := of_decide_eq_false hc4
        rw [hj, hj1, hdiv] at hc4
        have he : errC c i = 0 := by
          unfold errC
          rw [if_neg (by omega), if_neg h0, if_neg hle, if_neg (by unfold steepF; intro h; exact hc4 (of_decide_eq_true h).2)]
        conv => whnf
        refine ⟨?_, i + 1, ⟨by omega, hnext he, hall' he⟩, ?_, rfl, rfl, ?_, ?_⟩
        · (try conv => whnf)
          (repeat' (first | exact True.intro | exact fun _ h => h | refine inR64_of ?_ ?_ | apply And.intro | refine maxLen_ge ?_)) <;> (first | omega | decide | (dsimp only; omega) | (dsimp only [List.length_cons, List.length_nil]; omega) | (intro hg; rw [hg]; rfl) | (intro hg hh; rw [hg, hh]; rfl) | (intro hg; simp [-List.getD_eq_getElem?_getD, -Int.default_eq_zero] at hg; first | omega | (refine inR64_of ?_ ?_ <;> omega) | (constructor <;> omega)) | (simp [-List.getD_eq_getElem?_getD, -Int.default_eq_zero]; done))
        · omega
        all_goals repeat' (first | exact True.intro | refine leF_cons rfl ?_ ?_ | refine leS_cons rfl ?_ ?_ | (show PLe _ _ _ _; conv => whnf) | (show SLe _ _ _ _; conv => whnf) | (show PLeL _ _ _ _; conv => whnf) | apply And.intro | rfl | exact Nat.le_refl _ | exact fun _ _ => rfl | exact rowEq0 _ _)
        all_goals omega
    · replace hc := of_decide_eq_false hc
      rw [show c.length - i = 0 by omega] at hs
      rw [← hs]
      conv => whnf
      refine ⟨?_, [], ?_⟩
      · (try conv => whnf)
        (repeat' (first | exact True.intro | exact fun _ h => h | refine inR64_of ?_ ?_ | apply And.intro | refine maxLen_ge ?_)) <;> (first | omega | decide | (dsimp only; omega) | (dsimp only [List.length_cons, List.length_nil]; omega) | (intro hg; rw [hg]; rfl) | (intro hg hh; rw [hg, hh]; rfl) | (intro hg; simp [-List.getD_eq_getElem?_getD, -Int.default_eq_zero] at hg; first | omega | (refine inR64_of ?_ ?_ <;> omega) | (constructor <;> omega)) | (simp [-List.getD_eq_getElem?_getD, -Int.default_eq_zero]; done))
      conv => whnf
      refine ⟨rfl, ?_, trivial, trivial⟩
      all_goals repeat' (first | exact True.intro | refine leF_cons rfl ?_ ?_ | refine leS_cons rfl ?_ ?_ | (show PLe _ _ _ _; conv => whnf) | (show SLe _ _ _ _; conv => whnf) | (show PLeL _ _ _ _; conv => whnf) | apply And.intro | rfl | exact Nat.le_refl _ | exact fun _ _ => rfl | exact rowEq0 _ _)
set_option maxRecDepth 100000 in
set_option maxHeartbeats 4000000 in
theorem call82 (τ : Nat) (c : List Pt) (x : Int) (hg : GoodC c) : PureCall Tryd.prog 82 [.sl τ 2 c.length (fl ePt c), .int .i64 x] [] ⟨.int .i64 (valC c x), [], []⟩ := by
  have hle := hg.le
  have hne := hg.ne
  refine pure_call mix Tryd.func82 fits82 rfl ?_
  conv => whnf
  refine ⟨?_, fun hc => ?_, fun hc => ?_⟩
  · (try conv => whnf)
    (repeat' (first | exact True.intro | exact fun _ h => h | refine inR64_of ?_ ?_ | apply And.intro | refine maxLen_ge ?_)) <;> (first | omega | decide | (dsimp only; omega) | (dsimp only [List.length_cons, List.length_nil]; omega) | (intro hg; rw [hg]; rfl) | (intro hg hh; rw [hg, hh]; rfl) | (intro hg; simp [-List.getD_eq_getElem?_getD, -Int.default_eq_zero] at hg; first | omega | (refine inR64_of ?_ ?_ <;> omega) | (constructor <;> omega)) | (simp [-List.getD_eq_getElem?_getD, -Int.default_eq_zero]; done))
  · replace hc := of_decide_eq_true hc
    rw [val_lo hg hc]
    conv => whnf
    refine ⟨?_, [], ?_⟩
    · (try conv => whnf)
      (repeat' (first | exact True.intro | exact fun _ h => h | refine inR64_of ?_ ?_ | apply And.intro | refine maxLen_ge ?_)) <;> (first | omega | decide | (dsimp only; omega) | (dsimp only [List.length_cons, List.length_nil]; omega) | (intro hg; rw [hg]; rfl) | (intro hg hh; rw [hg, hh]; rfl) | (intro hg; simp [-List.getD_eq_getElem?_getD, -Int.default_eq_zero] at hg; first | omega | (refine inR64_of ?_ ?_ <;> omega) | (constructor <;> omega)) | (simp [-List.getD_eq_getElem?_getD, -Int.default_eq_zero]; done))
    conv => whnf
    refine ⟨rfl, ?_, trivial, trivial⟩
    all_goals repeat' (first | exact True.intro | refine leF_cons rfl ?_ ?_ | refine leS_cons rfl ?_ ?_ | (show PLe _ _ _ _; conv => whnf) | (show SLe _ _ _ _; conv => whnf) | (show PLeL _ _ _ _; conv => whnf) | apply And.intro | rfl | exact Nat.le_refl _ | exact fun _ _ => rfl | exact rowEq0 _ _)
  replace hc := of_decide_eq_false hc
  have hlo : (c.getD 0 default).x < x := by
    have h : ¬ x ≤ (c.getD 0 default).x := hc
    omega
  clear hc
  conv => whnf
  refine ⟨trivial, ?_⟩
  refine LSem.loop (n := 66) mix (α := Nat) (fun i => 1 ≤ i ∧ i ≤ c.length ∧ (c.getD (i - 1) default).x ≤ x)
    (fun i => [(0, .sl τ 2 c.length (fl ePt c)), (1, .int .i64 x), (5, .int .i64 i)])
    (fun _ => []) (fun i => c.length - i) 1 ?_ ?_ ?_
  · exact ⟨Nat.le_refl _, by omega, Int.le_of_lt hlo⟩
  · refine ⟨rfl, rfl, ?_, ?_⟩
    all_goals repeat' (first | exact True.intro | refine leF_cons rfl ?_ ?_ | refine leS_cons rfl ?_ ?_ | (show PLe _ _ _ _; conv => whnf) | (show SLe _ _ _ _; conv => whnf) | (show PLeL _ _ _ _; conv => whnf) | apply And.intro | rfl | exact Nat.le_refl _ | exact fun _ _ => rfl | exact rowEq0 _ _)
  · intro i hi
    obtain ⟨h1, hi, hx⟩ := hi
    have hj : ((i : Int)).toNat = i := by omega
    have hj1 : ((i : Int) - 1).toNat = i - 1 := by omega
    conv => whnf
    refine ⟨trivial, fun hc => ?_, fun hc => ?_⟩
    · replace hc := of_decide_eq_true hc
      have hlt : i < c.length := by omega
      conv => whnf
      refine ⟨?_, fun hc1 => ?_, fun hc1 => ?_⟩
      · (try conv => whnf)
        (repeat' (first | exact True.intro | exact fun _ h => h | refine inR64_of ?_ ?_ | apply And.intro | refine maxLen_ge ?_)) <;> (first | omega | decide | (dsimp only; omega) | (dsimp only [List.length_cons, List.length_nil]; omega) | (intro hg; rw [hg]; rfl) | (intro hg hh; rw [hg, hh]; rfl) | (intro hg; simp [-List.getD_eq_getElem?_getD, -Int.default_eq_zero] at hg; first | omega | (refine inR64_of ?_ ?_ <;> omega) | (constructor <;> omega)) | (simp [-List.getD_eq_getElem?_getD, -Int.default_eq_zero]; done))
      · replace hc1 := of_decide_eq_true hc1
        rw [hj] at hc1
        rw [val_seg hg (by omega) hlt hx (by omega)]
        unfold lineF
        have hr := hg.rng i hlt
        have hr1 := hg.rng (i - 1) (by omega)
        have hu := hg.up i (by omega) hlt
        conv => whnf
        refine ⟨rfl, ?_⟩
        conv => whnf
        refine ⟨rfl, ?_⟩
        conv => whnf
        have hp : 0 ≤ ((c.getD ((i : Int)).toNat default).y - (c.getD ((i : Int) - 1).toNat default).y) * (x - (c.getD ((i : Int) - 1).toNat default).x) ∧ ((c.getD ((i : Int)).toNat default).y - (c.getD ((i : Int) - 1).toNat default).y) * (x - (c.getD ((i : Int) - 1).toNat default).x) ≤ 4611686018427387904 := by
          rw [hj, hj1]
          exact prod_le (by omega) (Int.le_refl _) (by omega) (by omega) hu.2.2
        have hq : Int.tdiv (((c.getD ((i : Int)).toNat default).y - (c.getD ((i : Int) - 1).toNat default).y) * (x - (c.getD ((i : Int) - 1).toNat default).x)) ((c.getD ((i : Int)).toNat default).x - (c.getD ((i : Int) - 1).toNat default).x) = (((c.getD ((i : Int)).toNat default).y - (c.getD ((i : Int) - 1).toNat default).y) * (x - (c.getD ((i : Int) - 1).toNat default).x)) / ((c.getD ((i : Int)).toNat default).x - (c.getD ((i : Int) - 1).toNat default).x) := Int.tdiv_eq_ediv_of_nonneg hp.1
        have hq2 : 0 ≤ (((c.getD ((i : Int)).toNat default).y - (c.getD ((i : Int) - 1).toNat default).y) * (x - (c.getD ((i : Int) - 1).toNat default).x)) / ((c.getD ((i : Int)).toNat default).x - (c.getD ((i : Int) - 1).toNat default).x) := Int.ediv_nonneg hp.1 (by rw [hj, hj1]; omega)
        have hq3 : (((c.getD ((i : Int)).toNat default).y - (c.getD ((i : Int) - 1).toNat default).y) * (x - (c.getD ((i : Int) - 1).toNat default).x)) / ((c.getD ((i : Int)).toNat default).x - (c.getD ((i : Int) - 1).toNat default).x) ≤ ((c.getD ((i : Int)).toNat default).y - (c.getD ((i : Int) - 1).toNat default).y) := by
          rw [hj, hj1]
          refine Int.ediv_le_of_le_mul (by omega) (Int.mul_le_mul_of_nonneg_left (by omega) (by omega))
        refine ⟨?_, [], ?_⟩
        · rw [hq]
          rw [hj, hj1] at hq2 hq3 hp ⊢
          (try conv => whnf)
          (repeat' (first | exact True.intro | exact fun _ h => h | refine inR64_of ?_ ?_ | apply And.intro | refine maxLen_ge ?_)) <;> (first | omega | decide | (dsimp only; omega) | (dsimp only [List.length_cons, List.length_nil]; omega) | (intro hg; rw [hg]; rfl) | (intro hg hh; rw [hg, hh]; rfl) | (intro hg; simp [-List.getD_eq_getElem?_getD, -Int.default_eq_zero] at hg; first | omega | (refine inR64_of ?_ ?_ <;> omega) | (constructor <;> omega)) | (simp [-List.getD_eq_getElem?_getD, -Int.default_eq_zero]; done))
        conv => whnf
        refine ⟨rfl, ?_, trivial, trivial⟩
        all_goals repeat' (first | exact True.intro | refine leF_cons rfl ?_ ?_ | refine leS_cons rfl ?_ ?_ | (show PLe _ _ _ _; conv => whnf) | (show SLe _ _ _ _; conv => whnf) | (show PLeL _ _ _ _; conv => whnf) | apply And.intro | rfl | exact Nat.le_refl _ | exact fun _ _ => rfl | exact rowEq0 _ _)
        rw [hq, hj, hj1]
      · replace hc1 := of_decide_eq_false hc1
        rw [hj] at hc1
        conv => whnf
        refine ⟨?_, i + 1, ⟨by omega, by omega, by rw [Nat.add_sub_cancel]; omega⟩, ?_, rfl, rfl, ?_, ?_⟩
        · (try conv => whnf)
          (repeat' (first | exact True.intro | exact fun _ h => h | refine inR64_of ?_ ?_ | apply And.intro | refine maxLen_ge ?_)) <;> (first | omega | decide | (dsimp only; omega) | (dsimp only [List.length_cons, List.length_nil]; omega) | (intro hg; rw [hg]; rfl) | (intro hg hh; rw [hg, hh]; rfl) | (intro hg; simp [-List.getD_eq_getElem?_getD, -Int.default_eq_zero] at hg; first | omega | (refine inR64_of ?_ ?_ <;> omega) | (constructor <;> omega)) | (simp [-List.getD_eq_getElem?_getD, -Int.default_eq_zero]; done))
        · omega
        all_goals repeat' (first | exact True.intro | refine leF_cons rfl ?_ ?_ | refine leS_cons rfl ?_ ?_ | (show PLe _ _ _ _; conv => whnf) | (show SLe _ _ _ _; conv => whnf) | (show PLeL _ _ _ _; conv => whnf) | apply And.intro | rfl | exact Nat.le_refl _ | exact fun _ _ => rfl | exact rowEq0 _ _)
        all_goals omega
    · replace hc := of_decide_eq_false hc
      have : i = c.length := by omega
      subst this
      rw [val_hi hg hx]
      conv => whnf
      refine ⟨?_, [], ?_⟩
      · (try conv => whnf)
        (repeat' (first | exact True.intro | exact fun _ h => h | refine inR64_of ?_ ?_ | apply And.intro | refine maxLen_ge ?_)) <;> (first | omega | decide | (dsimp only; omega) | (dsimp only [List.length_cons, List.length_nil]; omega) | (intro hg; rw [hg]; rfl) | (intro hg hh; rw [hg, hh]; rfl) | (intro hg; simp [-List.getD_eq_getElem?_getD, -Int.default_eq_zero] at hg; first | omega | (refine inR64_of ?_ ?_ <;> omega) | (constructor <;> omega)) | (simp [-List.getD_eq_getElem?_getD, -Int.default_eq_zero]; done))
      conv => whnf
      refine ⟨rfl, ?_, trivial, trivial⟩
      all_goals repeat' (first | exact True.intro | refine leF_cons rfl ?_ ?_ | refine leS_cons rfl ?_ ?_ | (show PLe _ _ _ _; conv => whnf) | (show SLe _ _ _ _; conv => whnf) | (show PLeL _ _ _ _; conv => whnf) | apply And.intro | rfl | exact Nat.le_refl _ | exact fun _ _ => rfl | exact rowEq0 _ _)
      rw [hj1]
set_option maxRecDepth 100000 in
theorem call65 (τ : Nat) (c : List Pt) (x : Int) : PureCall Tryd.prog 65 [.sl τ 2 c.length (fl ePt c), .int .i64 x] [] ⟨.tup [.int .i64 (atC c x).1, .int .i64 (atC c x).2], [], []⟩ := by
  refine pure_call mix Tryd.func65 fits65 rfl ?_
  conv => whnf
  refine ⟨_, fun _ => call81 _ c, ?_⟩
  by_cases hc : checkC c = 0
  · rw [show atC c x = (valC c x, 0) by unfold atC; rw [if_pos hc], hc]
    conv => whnf
    refine ⟨?_, fun h => (by cases h), fun _ => ?_⟩
    · (try conv => whnf)
      (repeat' (first | exact True.intro | exact fun _ h => h | refine inR64_of ?_ ?_ | apply And.intro | refine maxLen_ge ?_)) <;> (first | omega | decide | (dsimp only; omega) | (dsimp only [List.length_cons, List.length_nil]; omega) | (intro hg; rw [hg]; rfl) | (intro hg hh; rw [hg, hh]; rfl) | (intro hg; simp [-List.getD_eq_getElem?_getD, -Int.default_eq_zero] at hg; first | omega | (refine inR64_of ?_ ?_ <;> omega) | (constructor <;> omega)) | (simp [-List.getD_eq_getElem?_getD, -Int.default_eq_zero]; done))
    conv => whnf
    refine ⟨_, fun _ => call82 _ c x ((check_good c).1 hc), ?_⟩
    conv => whnf
    refine ⟨?_, [], ?_⟩
    · (try conv => whnf)
      (repeat' (first | exact True.intro | exact fun _ h => h | refine inR64_of ?_ ?_ | apply And.intro | refine maxLen_ge ?_)) <;> (first | omega | decide | (dsimp only; omega) | (dsimp only [List.length_cons, List.length_nil]; omega) | (intro hg; rw [hg]; rfl) | (intro hg hh; rw [hg, hh]; rfl) | (intro hg; simp [-List.getD_eq_getElem?_getD, -Int.default_eq_zero] at hg; first | omega | (refine inR64_of ?_ ?_ <;> omega) | (constructor <;> omega)) | (simp [-List.getD_eq_getElem?_getD, -Int.default_eq_zero]; done))
    conv => whnf
    refine ⟨rfl, ?_, trivial, trivial⟩
    all_goals repeat' (first | exact True.intro | refine leF_cons rfl ?_ ?_ | refine leS_cons rfl ?_ ?_ | (show PLe _ _ _ _; conv => whnf) | (show SLe _ _ _ _; conv => whnf) | (show PLeL _ _ _ _; conv => whnf) | apply And.intro | rfl | exact Nat.le_refl _ | exact fun _ _ => rfl | exact rowEq0 _ _)
  · rw [show atC c x = (0, checkC c) by unfold atC; rw [if_neg hc]]
    generalize checkC c = E at hc ⊢
    conv => whnf
    refine ⟨?_, fun h => ?_, fun h => ?_⟩
    · (try conv => whnf)
      (repeat' (first | exact True.intro | exact fun _ h => h | refine inR64_of ?_ ?_ | apply And.intro | refine maxLen_ge ?_)) <;> (first | omega | decide | (dsimp only; omega) | (dsimp only [List.length_cons, List.length_nil]; omega) | (intro hg; rw [hg]; rfl) | (intro hg hh; rw [hg, hh]; rfl) | (intro hg; simp [-List.getD_eq_getElem?_getD, -Int.default_eq_zero] at hg; first | omega | (refine inR64_of ?_ ?_ <;> omega) | (constructor <;> omega)) | (simp [-List.getD_eq_getElem?_getD, -Int.default_eq_zero]; done))
    · conv => whnf
      refine ⟨?_, [], ?_⟩
      · (try conv => whnf)
        (repeat' (first | exact True.intro | exact fun _ h => h | refine inR64_of ?_ ?_ | apply And.intro | refine maxLen_ge ?_)) <;> (first | omega | decide | (dsimp only; omega) | (dsimp only [List.length_cons, List.length_nil]; omega) | (intro hg; rw [hg]; rfl) | (intro hg hh; rw [hg, hh]; rfl) | (intro hg; simp [-List.getD_eq_getElem?_getD, -Int.default_eq_zero] at hg; first | omega | (refine inR64_of ?_ ?_ <;> omega) | (constructor <;> omega)) | (simp [-List.getD_eq_getElem?_getD, -Int.default_eq_zero]; done))
      conv => whnf
      refine ⟨rfl, ?_, trivial, trivial⟩
      all_goals repeat' (first | exact True.intro | refine leF_cons rfl ?_ ?_ | refine leS_cons rfl ?_ ?_ | (show PLe _ _ _ _; conv => whnf) | (show SLe _ _ _ _; conv => whnf) | (show PLeL _ _ _ _; conv => whnf) | apply And.intro | rfl | exact Nat.le_refl _ | exact fun _ _ => rfl | exact rowEq0 _ _)
    · exact absurd (show E = 0 by simpa using h) hc
def lst (st : Bool) : Int := bif st then 1 else 0
set_option maxRecDepth 100000 in
set_option maxHeartbeats 4000000 in
theorem call60 (d : Dk) (x y dx dy : Int) (st : Bool) (hd : d.at_ ≤ 980000000) (hx : 0 ≤ x ∧ x ≤ 1000000) (hy : 0 ≤ y ∧ y ≤ 1000000) (hdx : 1 ≤ dx ∧ dx ≤ 1000000) (hdy : 1 ≤ dy ∧ dy ≤ 1000000) :
    PureCall Tryd.prog 60 [.pt 0 0 0, .int .i64 x, .int .i64 y, .int .i64 dx, .int .i64 dy, .bool st] [.box (eDk 1 d)] ⟨.sl 0 2 (curveS d x y dx dy (lst st)).L.length (fl ePt (curveS d x y dx dy (lst st)).L), [.box (eDk 1 (curveS d x y dx dy (lst st)).d)], []⟩ := by
  have hls : 0 ≤ lst st ∧ lst st ≤ 1 := by cases st <;> decide
  refine pure_call mix Tryd.func60 fits60 rfl ?_
  have r1 := nxt_lt d (n := 4) (by omega)
  have a1 := nxtD_at d 4
  cases st
  · conv => whnf
    refine ⟨trivial, fun hc => absurd hc (by decide), fun _ => ?_⟩
    conv => whnf
    refine ⟨_, fun _ => call_next 1 d 4 (by omega) (by omega), ?_⟩
    conv => whnf
    refine ⟨?_, ?_⟩
    · (try conv => whnf)
      (repeat' (first | exact True.intro | exact fun _ h => h | refine inR64_of ?_ ?_ | apply And.intro | refine maxLen_ge ?_)) <;> (first | omega | decide | (dsimp only; omega) | (dsimp only [List.length_cons, List.length_nil]; omega) | (intro hg; rw [hg]; rfl) | (intro hg hh; rw [hg, hh]; rfl) | (intro hg; simp [-List.getD_eq_getElem?_getD, -Int.default_eq_zero] at hg; first | omega | (refine inR64_of ?_ ?_ <;> omega) | (constructor <;> omega)) | (simp [-List.getD_eq_getElem?_getD, -Int.default_eq_zero]; done))
    refine LSem.loop (n := 48) mix (α := Nat × Cst) (fun s => s.1 ≤ 4 ∧ crvS dx dy 0 s.1 s.2 = curveS d x y dx dy 0 ∧ s.2.d.at_ + 2 * s.1 ≤ 980000020 ∧ s.2.L.length + s.1 ≤ 10 ∧ (0 ≤ s.2.x ∧ s.2.x + 1000001 * s.1 ≤ 5000010) ∧ (0 ≤ s.2.y ∧ s.2.y + 1000002 * s.1 ≤ 5000010))
      (fun s => [(0, .pt 0 0 0), (1, .int .i64 s.2.x), (2, .int .i64 s.2.y), (3, .int .i64 dx), (4, .int .i64 dy), (13, .int .i64 0), (14, .os 320), (15, .int .i64 s.1)])
      (fun s => [(0, .box (eDk 1 s.2.d)), (320, .row 0 135 2 s.2.L.length (fl ePt s.2.L))]) (fun s => s.1) ((1 + nxt d 4).toNat, ⟨[⟨x, y⟩], x, y, nxtD d 4⟩) ?_ ?_ ?_
    · refine ⟨by dsimp only; omega, rfl, ?_, ?_, ?_, ?_⟩
      all_goals (dsimp only [List.length_cons, List.length_nil]; omega)
    · refine ⟨rfl, rfl, ?_, ?_⟩
      all_goals repeat' (first | exact True.intro | refine leF_cons rfl ?_ ?_ | refine leS_cons rfl ?_ ?_ | (show PLe _ _ _ _; conv => whnf) | (show SLe _ _ _ _; conv => whnf) | (show PLeL _ _ _ _; conv => whnf) | apply And.intro | rfl | exact Nat.le_refl _ | exact fun _ _ => rfl | exact rowEq0 _ _)
      · dsimp only; omega
      · exact fl_one ePt ⟨x, y⟩
    · intro s hs
      obtain ⟨h1, h2, h3, h4, h5, h6⟩ := hs
      conv => whnf
      refine ⟨trivial, fun hc => ?_, fun hc => ?_⟩
      · replace hc := of_decide_eq_true hc
        have h0 : 0 < s.1 := by omega
        conv => whnf
        have r2 := nxt_lt s.2.d (n := dx) (by omega)
        have a2 := nxtD_at s.2.d dx
        refine ⟨_, fun _ => call_next 1 s.2.d dx (by omega) (by omega), ?_⟩
        conv => whnf
        have r3 := nxt_lt (nxtD s.2.d dx) (n := dy) (by omega)
        have a3 := nxtD_at (nxtD s.2.d dx) dy
        refine ⟨_, fun _ => call_next 1 (nxtD s.2.d dx) dy (by omega) (by omega), ?_⟩
        conv => whnf
        refine ⟨?_, (s.1 - 1, crvN dx dy 0 s.2), ⟨?_, ?_, ?_, ?_, ?_, ?_⟩, ?_, rfl, rfl, ?_, ?_⟩
        · (try conv => whnf)
          (repeat' (first | exact True.intro | exact fun _ h => h | refine inR64_of ?_ ?_ | apply And.intro | refine maxLen_ge ?_)) <;> (first | omega | decide | (dsimp only; omega) | (dsimp only [List.length_cons, List.length_nil]; omega) | (intro hg; rw [hg]; rfl) | (intro hg hh; rw [hg, hh]; rfl) | (intro hg; simp [-List.getD_eq_getElem?_getD, -Int.default_eq_zero] at hg; first | omega | (refine inR64_of ?_ ?_ <;> omega) | (constructor <;> omega)) | (simp [-List.getD_eq_getElem?_getD, -Int.default_eq_zero]; done))
        · dsimp only; omega
        · rw [← h2]; dsimp only
          rw [show s.1 = (s.1 - 1) + 1 by omega]; rfl
        · dsimp only [crvN]; omega
        · dsimp only [crvN]; rw [List.length_append, List.length_cons, List.length_nil]; omega
        · dsimp only [crvN]; omega
        · dsimp only [crvN]; omega
        · dsimp only; omega
        all_goals repeat' (first | exact True.intro | refine leF_cons rfl ?_ ?_ | refine leS_cons rfl ?_ ?_ | (show PLe _ _ _ _; conv => whnf) | (show SLe _ _ _ _; conv => whnf) | (show PLeL _ _ _ _; conv => whnf) | apply And.intro | rfl | exact Nat.le_refl _ | exact fun _ _ => rfl | exact rowEq0 _ _)
        all_goals (try dsimp only)
        all_goals (try omega)
        · simp [crvN]
        · exact fl_push ePt s.2.L ⟨s.2.x + 1 + nxt s.2.d dx, s.2.y + 0 + nxt (nxtD s.2.d dx) dy⟩
      · replace hc := of_decide_eq_false hc
        rw [show s.1 = 0 by omega] at h2
        rw [show lst false = 0 from rfl, ← h2]
        conv => whnf
        refine ⟨?_, [], ?_⟩
        · (try conv => whnf)
          (repeat' (first | exact True.intro | exact fun _ h => h | refine inR64_of ?_ ?_ | apply And.intro | refine maxLen_ge ?_)) <;> (first | omega | decide | (dsimp only; omega) | (dsimp only [List.length_cons, List.length_nil]; omega) | (intro hg; rw [hg]; rfl) | (intro hg hh; rw [hg, hh]; rfl) | (intro hg; simp [-List.getD_eq_getElem?_getD, -Int.default_eq_zero] at hg; first | omega | (refine inR64_of ?_ ?_ <;> omega) | (constructor <;> omega)) | (simp [-List.getD_eq_getElem?_getD, -Int.default_eq_zero]; done))
        conv => whnf
        refine ⟨rfl, ?_, ?_, trivial⟩
        all_goals repeat' (first | exact True.intro | refine leF_cons rfl ?_ ?_ | refine leS_cons rfl ?_ ?_ | (show PLe _ _ _ _; conv => whnf) | (show SLe _ _ _ _; conv => whnf) | (show PLeL _ _ _ _; conv => whnf) | apply And.intro | rfl | exact Nat.le_refl _ | exact fun _ _ => rfl | exact rowEq0 _ _)
  · conv => whnf
    refine ⟨trivial, fun _ => ?_, fun hc => absurd hc (by decide)⟩
    conv => whnf
    refine ⟨_, fun _ => call_next 1 d 4 (by omega) (by omega), ?_⟩
    conv => whnf
    refine ⟨?_, ?_⟩
    · (try conv => whnf)
      (repeat' (first | exact True.intro | exact fun _ h => h | refine inR64_of ?_ ?_ | apply And.intro | refine maxLen_ge ?_)) <;> (first | omega | decide | (dsimp only; omega) | (dsimp only [List.length_cons, List.length_nil]; omega) | (intro hg; rw [hg]; rfl) | (intro hg hh; rw [hg, hh]; rfl) | (intro hg; simp [-List.getD_eq_getElem?_getD, -Int.default_eq_zero] at hg; first | omega | (refine inR64_of ?_ ?_ <;> omega) | (constructor <;> omega)) | (simp [-List.getD_eq_getElem?_getD, -Int.default_eq_zero]; done))
    refine LSem.loop (n := 48) mix (α := Nat × Cst) (fun s => s.1 ≤ 4 ∧ crvS dx dy 1 s.1 s.2 = curveS d x y dx dy 1 ∧ s.2.d.at_ + 2 * s.1 ≤ 980000020 ∧ s.2.L.length + s.1 ≤ 10 ∧ (0 ≤ s.2.x ∧ s.2.x + 1000001 * s.1 ≤ 5000010) ∧ (0 ≤ s.2.y ∧ s.2.y + 1000002 * s.1 ≤ 5000010))
      (fun s => [(0, .pt 0 0 0), (1, .int .i64 s.2.x), (2, .int .i64 s.2.y), (3, .int .i64 dx), (4, .int .i64 dy), (13, .int .i64 1), (14, .os 320), (15, .int .i64 s.1)])
      (fun s => [(0, .box (eDk 1 s.2.d)), (320, .row 0 135 2 s.2.L.length (fl ePt s.2.L))]) (fun s => s.1) ((1 + nxt d 4).toNat, ⟨[⟨x, y⟩], x, y, nxtD d 4⟩) ?_ ?_ ?_
    · refine ⟨by dsimp only; omega, rfl, ?_, ?_, ?_, ?_⟩
      all_goals (dsimp only [List.length_cons, List.length_nil]; omega)
    · refine ⟨rfl, rfl, ?_, ?_⟩
      all_goals repeat' (first | exact True.intro | refine leF_cons rfl ?_ ?_ | refine leS_cons rfl ?_ ?_ | (show PLe _ _ _ _; conv => whnf) | (show SLe _ _ _ _; conv => whnf) | (show PLeL _ _ _ _; conv => whnf) | apply And.intro | rfl | exact Nat.le_refl _ | exact fun _ _ => rfl | exact rowEq0 _ _)
      · dsimp only; omega
      · exact fl_one ePt ⟨x, y⟩
    · intro s hs
      obtain ⟨h1, h2, h3, h4, h5, h6⟩ := hs
      conv => whnf
      refine ⟨trivial, fun hc => ?_, fun hc => ?_⟩
      · replace hc := of_decide_eq_true hc
        have h0 : 0 < s.1 := by omega
        conv => whnf
        have r2 := nxt_lt s.2.d (n := dx) (by omega)
        have a2 := nxtD_at s.2.d dx
        refine ⟨_, fun _ => call_next 1 s.2.d dx (by omega) (by omega), ?_⟩
        conv => whnf
        have r3 := nxt_lt (nxtD s.2.d dx) (n := dy) (by omega)
        have a3 := nxtD_at (nxtD s.2.d dx) dy
        refine ⟨_, fun _ => call_next 1 (nxtD s.2.d dx) dy (by omega) (by omega), ?_⟩
        conv => whnf
        refine ⟨?_, (s.1 - 1, crvN dx dy 1 s.2), ⟨?_, ?_, ?_, ?_, ?_, ?_⟩, ?_, rfl, rfl, ?_, ?_⟩
        · (try conv => whnf)
          (repeat' (first | exact True.intro | exact fun _ h => h | refine inR64_of ?_ ?_ | apply And.intro | refine maxLen_ge ?_)) <;> (first | omega | decide | (dsimp only; omega) | (dsimp only [List.length_cons, List.length_nil]; omega) | (intro hg; rw [hg]; rfl) | (intro hg hh; rw [hg, hh]; rfl) | (intro hg; simp [-List.getD_eq_getElem?_getD, -Int.default_eq_zero] at hg; first | omega | (refine inR64_of ?_ ?_ <;> omega) | (constructor <;> omega)) | (simp [-List.getD_eq_getElem?_getD, -Int.default_eq_zero]; done))
        · dsimp only; omega
        · rw [← h2]; dsimp only
          rw [show s.1 = (s.1 - 1) + 1 by omega]; rfl
        · dsimp only [crvN]; omega
        · dsimp only [crvN]; rw [List.length_append, List.length_cons, List.length_nil]; omega
        · dsimp only [crvN]; omega
        · dsimp only [crvN]; omega
        · dsimp only; omega
        all_goals repeat' (first | exact True.intro | refine leF_cons rfl ?_ ?_ | refine leS_cons rfl ?_ ?_ | (show PLe _ _ _ _; conv => whnf) | (show SLe _ _ _ _; conv => whnf) | (show PLeL _ _ _ _; conv => whnf) | apply And.intro | rfl | exact Nat.le_refl _ | exact fun _ _ => rfl | exact rowEq0 _ _)
        all_goals (try dsimp only)
        all_goals (try omega)
        · simp [crvN]
        · exact fl_push ePt s.2.L ⟨s.2.x + 1 + nxt s.2.d dx, s.2.y + 1 + nxt (nxtD s.2.d dx) dy⟩
      · replace hc := of_decide_eq_false hc
        rw [show s.1 = 0 by omega] at h2
        rw [show lst true = 1 from rfl, ← h2]
        conv => whnf
        refine ⟨?_, [], ?_⟩
        · (try conv => whnf)
          (repeat' (first | exact True.intro | exact fun _ h => h | refine inR64_of ?_ ?_ | apply And.intro | refine maxLen_ge ?_)) <;> (first | omega | decide | (dsimp only; omega) | (dsimp only [List.length_cons, List.length_nil]; omega) | (intro hg; rw [hg]; rfl) | (intro hg hh; rw [hg, hh]; rfl) | (intro hg; simp [-List.getD_eq_getElem?_getD, -Int.default_eq_zero] at hg; first | omega | (refine inR64_of ?_ ?_ <;> omega) | (constructor <;> omega)) | (simp [-List.getD_eq_getElem?_getD, -Int.default_eq_zero]; done))
        conv => whnf
        refine ⟨rfl, ?_, ?_, trivial⟩
        all_goals repeat' (first | exact True.intro | refine leF_cons rfl ?_ ?_ | refine leS_cons rfl ?_ ?_ | (show PLe _ _ _ _; conv => whnf) | (show SLe _ _ _ _; conv => whnf) | (show PLeL _ _ _ _; conv => whnf) | apply And.intro | rfl | exact Nat.le_refl _ | exact fun _ _ => rfl | exact rowEq0 _ _)
end Pv
end Go.Proofs.YtafnkpmoolbjjaaDoor
/- RESERVOIRS: what the document's answer computes of them; reservoirs that are made. -/
set_option linter.unusedSimpArgs false
set_option linter.unusedVariables false
namespace Go.Proofs.YtafnkpmoolbjjaaDoor
namespace Pv
def c79L1 : C := (.seq (.reg [⟨(some 25), 400, none, .bi false .lss (.t 24) (.t 23)⟩])
  (.seq (.cond (.t 25) .skip (.exit 0))
  (.seq (.block 1 (.seq (.reg [⟨(some 26), 416, none, .ia 2 (.t 22) (.t 24)⟩,
    ⟨(some 27), 432, none, .ld 2 true (.t 26)⟩,
    ⟨(some 6), 96, none, .al [(.int .i64 0), (.int .i64 0)]⟩,
    ⟨none, 0, none, .st 2 (.t 6) (.t 27)⟩])
  (.seq (.reg [⟨(some 28), 448, none, .fa 0 (.t 6)⟩,
    ⟨(some 29), 464, none, .ld 1 false (.t 28)⟩,
    ⟨(some 30), 480, none, .bi false .gtr (.t 29) (.c (.int .i64 16777216))⟩])
  (.cond (.t 30) (.seq (.reg [⟨(some 2), 32, none, .mv (.c (.int .i64 1))⟩])
  .ret) .skip))))
  (.reg [⟨(some 31), 496, none, .bi false .add (.t 24) (.c (.int .i64 1))⟩,
    ⟨(some 24), 384, none, .mv (.t 31)⟩]))))
def c79L2 : C := (.seq (.seq (.reg [⟨(some 32), 512, none, .mv (.t 7)⟩,
    ⟨(some 33), 528, none, .mv (.t 4)⟩,
    ⟨(some 34), 544, none, .bi false .lss (.t 32) (.t 33)⟩])
  (.cond (.t 34) .skip (.exit 2)))
  (.seq (.block 3 (.seq (.drw [⟨(some 37), 592, none, .fa 0 (.t 1)⟩,
    ⟨(some 38), 608, none, .ld 1 false (.t 37)⟩,
    ⟨(some 39), 624, none, .mv (.t 7)⟩,
    ⟨(some 40), 640, none, .ia 2 (.t 38) (.t 39)⟩,
    ⟨(some 41), 656, none, .fa 1 (.t 40)⟩,
    ⟨(some 42), 672, none, .ld 1 false (.t 41)⟩,
    ⟨(some 43), 688, none, .fa 0 (.t 1)⟩,
    ⟨(some 44), 704, none, .ld 1 false (.t 43)⟩,
    ⟨(some 45), 720, none, .mv (.t 7)⟩,
    ⟨(some 46), 736, none, .bi false .sub (.t 45) (.c (.int .i64 1))⟩,
    ⟨(some 47), 752, none, .ia 2 (.t 44) (.t 46)⟩,
    ⟨(some 48), 768, none, .fa 1 (.t 47)⟩,
    ⟨(some 49), 784, none, .ld 1 false (.t 48)⟩,
    ⟨(some 50), 800, none, .bi false .leq (.t 42) (.t 49)⟩]
    [(0, 2, 37), (0, 6, 37), (0, 7, 37), (0, 8, 37), (0, 9, 37), (0, 10, 37), (0, 11, 37), (0, 12, 37), (1, 2, 38), (1, 6, 38), (1, 7, 38), (1, 8, 38), (1, 9, 38), (1, 10, 38), (1, 11, 38), (1, 12, 38), (2, 6, 39), (2, 7, 39), (2, 8, 39), (2, 9, 39), (2, 10, 39), (2, 11, 39), (2, 12, 39), (3, 6, 40), (3, 7, 40), (3, 8, 40), (3, 9, 40), (3, 10, 40), (3, 11, 40), (3, 12, 40), (4, 6, 41), (4, 7, 41), (4, 8, 41), (4, 9, 41), (4, 10, 41), (4, 11, 41), (4, 12, 41), (5, 6, 42), (5, 7, 42), (5, 8, 42), (5, 9, 42), (5, 10, 42), (5, 11, 42), (5, 12, 42), (6, 8, 43), (6, 9, 43), (7, 8, 44), (7, 9, 44)])
  (.cond (.t 50) (.seq (.reg [⟨(some 2), 32, none, .mv (.c (.int .i64 4))⟩])
  .ret) .skip)))
  (.reg [⟨(some 35), 560, none, .mv (.t 7)⟩,
    ⟨(some 36), 576, none, .bi false .add (.t 35) (.c (.int .i64 1))⟩,
    ⟨(some 7), 112, none, .mv (.t 36)⟩])))
def c79L3 : C := (.seq (.seq (.reg [⟨(some 74), 1184, none, .mv (.t 9)⟩,
    ⟨(some 75), 1200, none, .mv (.t 8)⟩,
    ⟨(some 76), 1216, none, .len (.t 75)⟩,
    ⟨(some 77), 1232, none, .bi false .lss (.t 74) (.t 76)⟩])
  (.cond (.t 77) .skip (.exit 4)))
  (.seq (.block 5 (.seq (.drw [⟨(some 80), 1280, none, .mv (.t 8)⟩,
    ⟨(some 81), 1296, none, .mv (.t 9)⟩,
    ⟨(some 82), 1312, none, .ia 1 (.t 80) (.t 81)⟩,
    ⟨(some 83), 1328, none, .ld 1 false (.t 82)⟩,
    ⟨(some 84), 1344, none, .mv (.t 8)⟩,
    ⟨(some 85), 1360, none, .mv (.t 9)⟩,
    ⟨(some 86), 1376, none, .bi false .sub (.t 85) (.c (.int .i64 1))⟩,
    ⟨(some 87), 1392, none, .ia 1 (.t 84) (.t 86)⟩,
    ⟨(some 88), 1408, none, .ld 1 false (.t 87)⟩,
    ⟨(some 89), 1424, none, .bi false .lss (.t 83) (.t 88)⟩]
    [(0, 1, 80), (0, 4, 80), (0, 5, 80), (0, 6, 80), (0, 7, 80), (0, 8, 80), (1, 4, 81), (1, 5, 81), (1, 6, 81), (1, 7, 81), (1, 8, 81), (2, 4, 82), (2, 5, 82), (2, 6, 82), (2, 7, 82), (2, 8, 82), (3, 4, 83), (3, 5, 83), (3, 6, 83), (3, 7, 83), (3, 8, 83), (4, 5, 84), (4, 6, 84)])
  (.cond (.t 89) (.seq (.reg [⟨(some 2), 32, none, .mv (.c (.int .i64 4))⟩])
  .ret) .skip)))
  (.reg [⟨(some 78), 1248, none, .mv (.t 9)⟩,
    ⟨(some 79), 1264, none, .bi false .add (.t 78) (.c (.int .i64 1))⟩,
    ⟨(some 9), 144, none, .mv (.t 79)⟩])))
def c79 : C := (.seq (.reg [⟨(some 1), 16, none, .bx 6 (.t 0)⟩,
    ⟨(some 2), 32, none, .mv (.c (.int .i64 0))⟩])
  (.seq (.seq (.reg [⟨(some 10), 160, none, .fa 0 (.t 1)⟩,
    ⟨(some 11), 176, none, .ld 1 false (.t 10)⟩,
    ⟨(some 12), 192, none, .call (.c (.fn (.func 81) [] [])) [(.t 11)]⟩,
    ⟨(some 3), 48, none, .mv (.t 12)⟩])
  (.seq (.reg [⟨(some 13), 208, none, .mv (.t 3)⟩,
    ⟨(some 14), 224, none, .bi false .neq (.t 13) (.c (.int .i64 0))⟩])
  (.cond (.t 14) (.seq (.reg [⟨(some 15), 240, none, .mv (.t 3)⟩,
    ⟨(some 2), 32, none, .mv (.t 15)⟩])
  .ret) .skip)))
  (.seq (.reg [⟨(some 16), 256, none, .fa 0 (.t 1)⟩,
    ⟨(some 17), 272, none, .ld 1 false (.t 16)⟩,
    ⟨(some 18), 288, none, .len (.t 17)⟩,
    ⟨(some 4), 64, none, .mv (.t 18)⟩])
  (.seq (.seq (.reg [⟨(some 19), 304, none, .mv (.t 4)⟩,
    ⟨(some 20), 320, none, .bi false .lss (.t 19) (.c (.int .i64 2))⟩])
  (.cond (.t 20) (.seq (.reg [⟨(some 2), 32, none, .mv (.c (.int .i64 3))⟩])
  .ret) .skip))
  (.seq (.seq (.reg [⟨(some 21), 336, none, .fa 0 (.t 1)⟩,
    ⟨(some 22), 352, none, .ld 1 false (.t 21)⟩,
    ⟨(some 23), 368, none, .len (.t 22)⟩,
    ⟨(some 24), 384, none, .mv (.c (.int .i64 0))⟩])
  (.block 0 (.loop c79L1)))
  (.seq (.seq (.reg [⟨(some 7), 112, none, .mv (.c (.int .i64 1))⟩])
  (.block 2 (.loop c79L2)))
  (.seq (.drw [⟨(some 51), 816, none, .fa 0 (.t 1)⟩,
    ⟨(some 52), 832, none, .ld 1 false (.t 51)⟩,
    ⟨(some 53), 848, none, .ia 2 (.t 52) (.c (.int .i64 0))⟩,
    ⟨(some 54), 864, none, .fa 0 (.t 53)⟩,
    ⟨(some 55), 880, none, .ld 1 false (.t 54)⟩,
    ⟨(some 56), 896, none, .fa 1 (.t 1)⟩,
    ⟨(some 57), 912, none, .ld 1 false (.t 56)⟩,
    ⟨(some 58), 928, none, .fa 2 (.t 1)⟩,
    ⟨(some 59), 944, none, .ld 1 false (.t 58)⟩,
    ⟨(some 60), 960, none, .fa 3 (.t 1)⟩,
    ⟨(some 61), 976, none, .ld 1 false (.t 60)⟩,
    ⟨(some 62), 992, none, .fa 4 (.t 1)⟩,
    ⟨(some 63), 1008, none, .ld 1 false (.t 62)⟩,
    ⟨(some 64), 1024, none, .fa 5 (.t 1)⟩,
    ⟨(some 65), 1040, none, .ld 1 false (.t 64)⟩,
    ⟨(some 66), 1056, none, .fa 0 (.t 1)⟩,
    ⟨(some 67), 1072, none, .ld 1 false (.t 66)⟩,
    ⟨(some 68), 1088, none, .mv (.t 4)⟩,
    ⟨(some 69), 1104, none, .bi false .sub (.t 68) (.c (.int .i64 1))⟩,
    ⟨(some 70), 1120, none, .ia 2 (.t 67) (.t 69)⟩,
    ⟨(some 71), 1136, none, .fa 0 (.t 70)⟩,
    ⟨(some 72), 1152, none, .ld 1 false (.t 71)⟩,
    ⟨(some 73), 1168, none, .bs 3 1 [(.t 55), (.t 57), (.t 59), (.t 61), (.t 63), (.t 65), (.t 72)]⟩,
    ⟨(some 8), 128, none, .mv (.t 73)⟩]
    [(0, 5, 51), (0, 6, 51), (0, 7, 51), (0, 8, 51), (0, 9, 51), (0, 10, 51), (0, 11, 51), (0, 12, 51), (0, 13, 51), (0, 14, 51), (0, 15, 51), (0, 16, 51), (0, 17, 51), (0, 18, 51), (0, 19, 51), (0, 20, 51), (0, 21, 51), (1, 5, 52), (1, 6, 52), (1, 7, 52), (1, 8, 52), (1, 9, 52), (1, 10, 52), (1, 11, 52), (1, 12, 52), (1, 13, 52), (1, 14, 52), (1, 15, 52), (1, 16, 52), (1, 17, 52), (1, 18, 52), (1, 19, 52), (1, 20, 52), (1, 21, 52), (2, 5, 53), (2, 6, 53), (2, 7, 53), (2, 8, 53), (2, 9, 53), (2, 10, 53), (2, 11, 53), (2, 12, 53), (2, 13, 53), (2, 14, 53), (2, 15, 53), (2, 16, 53), (2, 17, 53), (2, 18, 53), (2, 19, 53), (2, 20, 53), (2, 21, 53), (3, 5, 54), (3, 6, 54), (3, 7, 54), (3, 8, 54), (3, 9, 54), (3, 10, 54), (3, 11, 54), (3, 12, 54), (3, 13, 54), (3, 14, 54), (3, 15, 54), (3, 16, 54), (3, 17, 54), (3, 18, 54), (3, 19, 54), (3, 20, 54), (3, 21, 54), (4, 5, 55), (4, 6, 55), (4, 7, 55), (4, 8, 55), (4, 9, 55), (4, 10, 55), (4, 11, 55), (4, 12, 55), (4, 13, 55), (4, 14, 55), (4, 15, 55), (4, 16, 55), (4, 17, 55), (4, 18, 55), (4, 19, 55), (4, 20, 55), (4, 21, 55), (5, 7, 56), (5, 8, 56), (5, 9, 56), (5, 10, 56), (5, 11, 56), (5, 12, 56), (5, 13, 56), (5, 14, 56), (5, 15, 56), (5, 16, 56), (5, 17, 56), (5, 18, 56), (5, 19, 56), (5, 20, 56), (5, 21, 56), (6, 7, 57), (6, 8, 57), (6, 9, 57), (6, 10, 57), (6, 11, 57), (6, 12, 57), (6, 13, 57), (6, 14, 57), (6, 15, 57), (6, 16, 57), (6, 17, 57), (6, 18, 57), (6, 19, 57), (6, 20, 57), (6, 21, 57), (7, 9, 58), (7, 10, 58), (7, 11, 58), (7, 12, 58), (7, 13, 58), (7, 14, 58), (7, 15, 58), (7, 16, 58), (7, 17, 58), (7, 18, 58), (7, 19, 58), (7, 20, 58), (7, 21, 58), (8, 9, 59), (8, 10, 59), (8, 11, 59), (8, 12, 59), (8, 13, 59), (8, 14, 59), (8, 15, 59), (8, 16, 59), (8, 17, 59), (8, 18, 59), (8, 19, 59), (8, 20, 59), (8, 21, 59), (9, 11, 60), (9, 12, 60), (9, 13, 60), (9, 14, 60), (9, 15, 60), (9, 16, 60), (9, 17, 60), (9, 18, 60), (9, 19, 60), (9, 20, 60), (9, 21, 60), (10, 11, 61), (10, 12, 61), (10, 13, 61), (10, 14, 61), (10, 15, 61), (10, 16, 61), (10, 17, 61), (10, 18, 61), (10, 19, 61), (10, 20, 61), (10, 21, 61), (11, 13, 62), (11, 14, 62), (11, 15, 62), (11, 16, 62), (11, 17, 62), (11, 18, 62), (11, 19, 62), (11, 20, 62), (11, 21, 62), (12, 13, 63), (12, 14, 63), (12, 15, 63), (12, 16, 63), (12, 17, 63), (12, 18, 63), (12, 19, 63), (12, 20, 63), (12, 21, 63), (13, 15, 64), (13, 16, 64), (13, 17, 64), (13, 18, 64), (13, 19, 64), (13, 20, 64), (13, 21, 64), (14, 15, 65), (14, 16, 65), (14, 17, 65), (14, 18, 65), (14, 19, 65), (14, 20, 65), (14, 21, 65), (15, 17, 66), (15, 18, 66), (16, 17, 67), (16, 18, 67)])
  (.seq (.seq (.reg [⟨(some 9), 144, none, .mv (.c (.int .i64 1))⟩])
  (.block 4 (.loop c79L3)))
  (.seq (.reg [⟨(some 2), 32, none, .mv (.c (.int .i64 0))⟩])
  .ret)))))))))
theorem fits79 : fits Tryd.prog false Tryd.f79 1 90 [(2, none)] = some c79.er := by kernel_rfl
def c64 : C := (.seq (.reg [⟨(some 2), 32, none, .bx 6 (.t 0)⟩,
    ⟨(some 4), 64, none, .mv (.c (.int .i64 0))⟩])
  (.seq (.seq (.reg [⟨(some 6), 96, none, .ld 6 true (.t 2)⟩,
    ⟨(some 7), 112, none, .call (.c (.fn (.func 79) [] [])) [(.t 6)]⟩,
    ⟨(some 5), 80, none, .mv (.t 7)⟩])
  (.seq (.reg [⟨(some 8), 128, none, .mv (.t 5)⟩,
    ⟨(some 9), 144, none, .bi false .neq (.t 8) (.c (.int .i64 0))⟩])
  (.cond (.t 9) (.seq (.reg [⟨(some 10), 160, none, .mv (.t 5)⟩,
    ⟨(some 4), 64, none, .mv (.t 10)⟩])
  .ret) .skip)))
  (.seq (.seq (.reg [⟨(some 11), 176, none, .mv (.t 1)⟩,
    ⟨(some 12), 192, none, .call (.c (.fn (.func 80) [] [])) [(.t 11), (.c (.int .i64 16777216))]⟩,
    ⟨(some 13), 208, none, .un false .not (.t 12)⟩])
  (.cond (.t 13) (.seq (.reg [⟨(some 4), 64, none, .mv (.c (.int .i64 1))⟩])
  .ret) .skip))
  (.seq (.reg [⟨(some 4), 64, none, .mv (.c (.int .i64 0))⟩])
  .ret))))
theorem fits64 : fits Tryd.prog false Tryd.f64 2 14 [(4, none)] = some c64.er := by kernel_rfl
def c52 : C := (.seq (.reg [⟨(some 2), 32, none, .bx 6 (.t 0)⟩,
    ⟨(some 4), 64, none, .mv (.c (.int .i64 0))⟩,
    ⟨(some 5), 80, none, .mv (.c (.int .i64 0))⟩])
  (.seq (.seq (.reg [⟨(some 9), 144, none, .ld 6 true (.t 2)⟩,
    ⟨(some 10), 160, none, .mv (.t 1)⟩,
    ⟨(some 11), 176, none, .call (.c (.fn (.func 64) [] [])) [(.t 9), (.t 10)]⟩,
    ⟨(some 6), 96, none, .mv (.t 11)⟩])
  (.seq (.reg [⟨(some 12), 192, none, .mv (.t 6)⟩,
    ⟨(some 13), 208, none, .bi false .neq (.t 12) (.c (.int .i64 0))⟩])
  (.cond (.t 13) (.seq (.reg [⟨(some 14), 224, none, .mv (.t 6)⟩,
    ⟨(some 4), 64, none, .mv (.c (.int .i64 0))⟩,
    ⟨(some 5), 80, none, .mv (.t 14)⟩])
  .ret) .skip)))
  (.seq (.reg [⟨(some 16), 256, none, .fa 0 (.t 2)⟩,
    ⟨(some 17), 272, none, .ld 1 false (.t 16)⟩,
    ⟨(some 18), 288, none, .mv (.t 1)⟩,
    ⟨(some 19), 304, none, .call (.c (.fn (.func 65) [] [])) [(.t 17), (.t 18)]⟩,
    ⟨(some 15), 240, none, .mv (.t 19)⟩,
    ⟨(some 20), 320, none, .ex (.t 15) 0⟩,
    ⟨(some 21), 336, none, .ex (.t 15) 1⟩,
    ⟨(some 7), 112, none, .mv (.t 20)⟩,
    ⟨(some 8), 128, none, .mv (.t 21)⟩])
  (.seq (.reg [⟨(some 22), 352, none, .mv (.t 7)⟩,
    ⟨(some 4), 64, none, .mv (.t 22)⟩,
    ⟨(some 5), 80, none, .mv (.c (.int .i64 0))⟩])
  .ret))))
theorem fits52 : fits Tryd.prog false Tryd.f52 2 23 [(4, none), (5, none)] = some c52.er := by kernel_rfl
def c49L1 : C := (.seq (.reg [⟨(some 31), 496, none, .bi false .lss (.t 30) (.c (.int .i64 5))⟩])
  (.seq (.cond (.t 31) .skip (.exit 0))
  (.seq (.block 1 (.seq (.reg [⟨(some 32), 512, none, .mv (.t 30)⟩,
    ⟨(some 7), 112, none, .mv (.t 32)⟩])
  (.seq (.reg [⟨(some 33), 528, none, .mv (.t 4)⟩,
    ⟨(some 34), 544, none, .mv (.t 0)⟩,
    ⟨(some 35), 560, none, .mv (.t 5)⟩,
    ⟨(some 36), 576, none, .mv (.t 4)⟩,
    ⟨(some 37), 592, none, .bi false .sub (.t 35) (.t 36)⟩,
    ⟨(some 38), 608, none, .mv (.t 7)⟩,
    ⟨(some 39), 624, none, .bi false .sub (.c (.int .i64 5)) (.t 38)⟩,
    ⟨(some 40), 640, none, .bi false .quo (.t 37) (.t 39)⟩,
    ⟨(some 41), 656, none, .bi false .add (.t 40) (.c (.int .i64 1))⟩,
    ⟨(some 42), 672, none, .call (.c (.fn (.func 26) [] [])) [(.t 34), (.t 41)]⟩,
    ⟨(some 43), 688, none, .bi false .add (.t 33) (.t 42)⟩,
    ⟨(some 4), 64, none, .mv (.t 43)⟩])
  (.reg [⟨(some 44), 704, none, .mv (.t 7)⟩,
    ⟨(some 45), 720, none, .mv (.t 4)⟩,
    ⟨(some 46), 736, none, .iaa 5 1 (.t 6) (.t 44)⟩,
    ⟨none, 0, none, .st 1 (.t 46) (.t 45)⟩]))))
  (.reg [⟨(some 47), 752, none, .bi false .add (.t 30) (.c (.int .i64 1))⟩,
    ⟨(some 30), 480, none, .mv (.t 47)⟩]))))
def c49 : C := (.seq (.reg [⟨(some 2), 32, none, .al [(.nil 2), (.int .i64 0), (.int .i64 0), (.int .i64 0), (.int .i64 0), (.int .i64 0)]⟩])
  (.seq (.reg [⟨(some 8), 128, none, .mv (.t 0)⟩,
    ⟨(some 9), 144, none, .mv (.t 0)⟩,
    ⟨(some 10), 160, none, .call (.c (.fn (.func 26) [] [])) [(.t 9), (.c (.int .i64 10))]⟩,
    ⟨(some 11), 176, none, .bi false .add (.c (.int .i64 100)) (.t 10)⟩,
    ⟨(some 12), 192, none, .mv (.t 0)⟩,
    ⟨(some 13), 208, none, .call (.c (.fn (.func 26) [] [])) [(.t 12), (.c (.int .i64 20))]⟩,
    ⟨(some 14), 224, none, .call (.c (.fn (.func 60) [] [])) [(.t 8), (.t 11), (.t 13), (.c (.int .i64 40)), (.c (.int .i64 200)), (.c (.bool true))]⟩,
    ⟨(some 15), 240, none, .bd [(.nil 2), (.int .i64 0), (.int .i64 0), (.int .i64 0), (.int .i64 0), (.int .i64 0)] [(0, 1, (.t 14))]⟩,
    ⟨(some 3), 48, none, .al [(.nil 2), (.int .i64 0), (.int .i64 0), (.int .i64 0), (.int .i64 0), (.int .i64 0)]⟩,
    ⟨none, 0, none, .st 6 (.t 3) (.t 15)⟩])
  (.seq (.reg [⟨(some 16), 256, none, .fa 0 (.t 3)⟩,
    ⟨(some 17), 272, none, .ld 1 false (.t 16)⟩,
    ⟨(some 18), 288, none, .ia 2 (.t 17) (.c (.int .i64 0))⟩,
    ⟨(some 19), 304, none, .fa 0 (.t 18)⟩,
    ⟨(some 20), 320, none, .ld 1 false (.t 19)⟩,
    ⟨(some 4), 64, none, .mv (.t 20)⟩])
  (.seq (.reg [⟨(some 21), 336, none, .fa 0 (.t 3)⟩,
    ⟨(some 22), 352, none, .ld 1 false (.t 21)⟩,
    ⟨(some 23), 368, none, .fa 0 (.t 3)⟩,
    ⟨(some 24), 384, none, .ld 1 false (.t 23)⟩,
    ⟨(some 25), 400, none, .len (.t 24)⟩,
    ⟨(some 26), 416, none, .bi false .sub (.t 25) (.c (.int .i64 1))⟩,
    ⟨(some 27), 432, none, .ia 2 (.t 22) (.t 26)⟩,
    ⟨(some 28), 448, none, .fa 0 (.t 27)⟩,
    ⟨(some 29), 464, none, .ld 1 false (.t 28)⟩,
    ⟨(some 5), 80, none, .mv (.t 29)⟩])
  (.seq (.reg [⟨(some 6), 96, none, .al [(.int .i64 0), (.int .i64 0), (.int .i64 0), (.int .i64 0), (.int .i64 0)]⟩])
  (.seq (.seq (.reg [⟨(some 30), 480, none, .mv (.c (.int .i64 0))⟩])
  (.block 0 (.loop c49L1)))
  (.seq (.drw [⟨(some 48), 768, none, .iaa 5 1 (.t 6) (.c (.int .i64 0))⟩,
    ⟨(some 49), 784, none, .ld 1 false (.t 48)⟩,
    ⟨(some 50), 800, none, .iaa 5 1 (.t 6) (.c (.int .i64 1))⟩,
    ⟨(some 51), 816, none, .ld 1 false (.t 50)⟩,
    ⟨(some 52), 832, none, .iaa 5 1 (.t 6) (.c (.int .i64 2))⟩,
    ⟨(some 53), 848, none, .ld 1 false (.t 52)⟩,
    ⟨(some 54), 864, none, .iaa 5 1 (.t 6) (.c (.int .i64 3))⟩,
    ⟨(some 55), 880, none, .ld 1 false (.t 54)⟩,
    ⟨(some 56), 896, none, .iaa 5 1 (.t 6) (.c (.int .i64 4))⟩,
    ⟨(some 57), 912, none, .ld 1 false (.t 56)⟩,
    ⟨(some 58), 928, none, .fa 1 (.t 3)⟩,
    ⟨none, 0, none, .st 1 (.t 58) (.t 49)⟩,
    ⟨(some 59), 944, none, .fa 2 (.t 3)⟩,
    ⟨none, 0, none, .st 1 (.t 59) (.t 51)⟩,
    ⟨(some 60), 960, none, .fa 3 (.t 3)⟩,
    ⟨none, 0, none, .st 1 (.t 60) (.t 53)⟩,
    ⟨(some 61), 976, none, .fa 4 (.t 3)⟩,
    ⟨none, 0, none, .st 1 (.t 61) (.t 55)⟩,
    ⟨(some 62), 992, none, .fa 5 (.t 3)⟩,
    ⟨none, 0, none, .st 1 (.t 62) (.t 57)⟩]
    [(0, 2, 48), (0, 3, 48), (0, 4, 48), (0, 5, 48), (0, 6, 48), (0, 7, 48), (0, 8, 48), (0, 9, 48), (1, 2, 49), (1, 3, 49), (1, 4, 49), (1, 5, 49), (1, 6, 49), (1, 7, 49), (1, 8, 49), (1, 9, 49), (2, 4, 50), (2, 5, 50), (2, 6, 50), (2, 7, 50), (2, 8, 50), (2, 9, 50), (2, 10, 50), (2, 11, 50), (3, 4, 51), (3, 5, 51), (3, 6, 51), (3, 7, 51), (3, 8, 51), (3, 9, 51), (3, 10, 51), (3, 11, 51), (4, 6, 52), (4, 7, 52), (4, 8, 52), (4, 9, 52), (4, 10, 52), (4, 11, 52), (4, 12, 52), (4, 13, 52), (5, 6, 53), (5, 7, 53), (5, 8, 53), (5, 9, 53), (5, 10, 53), (5, 11, 53), (5, 12, 53), (5, 13, 53), (6, 8, 54), (6, 9, 54), (6, 10, 54), (6, 11, 54), (6, 12, 54), (6, 13, 54), (6, 14, 54), (6, 15, 54), (7, 8, 55), (7, 9, 55), (7, 10, 55), (7, 11, 55), (7, 12, 55), (7, 13, 55), (7, 14, 55), (7, 15, 55), (8, 10, 56), (8, 11, 56), (8, 12, 56), (8, 13, 56), (8, 14, 56), (8, 15, 56), (8, 16, 56), (8, 17, 56), (9, 10, 57), (9, 11, 57), (9, 12, 57), (9, 13, 57), (9, 14, 57), (9, 15, 57), (9, 16, 57), (9, 17, 57)])
  (.seq (.reg [⟨(some 63), 1008, none, .ld 6 true (.t 3)⟩,
    ⟨none, 0, none, .st 6 (.t 2) (.t 63)⟩])
  .ret))))))))
theorem fits49 : fits Tryd.prog false Tryd.f49 1 64 [(2, some (6, true))] = some c49.er := by kernel_rfl
structure Rv where
  st : List Pt
  dead : Int
  low : Int
  full : Int
  sur : Int
  crest : Int
  deriving Inhabited
def eRv (τ : Nat) (r : Rv) : List PV := [.sl τ 2 r.st.length (fl ePt r.st), .int .i64 r.dead, .int .i64 r.low, .int .i64 r.full, .int .i64 r.sur, .int .i64 r.crest]
def resL (r : Rv) : List Int := [(r.st.getD 0 default).x, r.dead, r.low, r.full, r.sur, r.crest, (r.st.getD (r.st.length - 1) default).x]
def resP1 (r : Rv) : Prop := ∀ i, i < r.st.length → (r.st.getD i default).x ≤ 16777216
def resP2 (r : Rv) : Prop := ∀ i, i < r.st.length → 0 < i → (r.st.getD (i - 1) default).y < (r.st.getD i default).y
def resP3 (r : Rv) : Prop := ∀ i, i < 7 → 0 < i → (resL r).getD (i - 1) default ≤ (resL r).getD i default
instance (r : Rv) : Decidable (resP1 r) := by unfold resP1; infer_instance
instance (r : Rv) : Decidable (resP2 r) := by unfold resP2; infer_instance
instance (r : Rv) : Decidable (resP3 r) := by unfold resP3; infer_instance
def checkRv (r : Rv) : Int := if checkC r.st ≠ 0 then checkC r.st else if r.st.length < 2 then 3 else if ¬ resP1 r then 1 else if ¬ resP2 r then 4 else if ¬ resP3 r then 4 else 0
def wrongRv (r : Rv) (level : Int) : Int := if checkRv r ≠ 0 then checkRv r else if ¬ (0 ≤ level ∧ level ≤ 16777216) then 1 else 0
def volF (r : Rv) (level : Int) : Int × Int := if wrongRv r level ≠ 0 then (0, wrongRv r level) else ((atC r.st level).1, 0)
theorem rows7 (a b c d e f g : Int) : RowEq 7 (fun i => [[PV.int .i64 a], [PV.int .i64 b], [PV.int .i64 c], [PV.int .i64 d], [PV.int .i64 e], [PV.int .i64 f], [PV.int .i64 g]].getD i []) (fl eInt [a, b, c, d, e, f, g]) := fun i hi => by
  match i, hi with
  | 0, _ => rfl
  | 1, _ => rfl
  | 2, _ => rfl
  | 3, _ => rfl
  | 4, _ => rfl
  | 5, _ => rfl
  | 6, _ => rfl
set_option maxRecDepth 100000 in
set_option maxHeartbeats 8000000 in
theorem call79 (τ : Nat) (r : Rv) : PureCall Tryd.prog 79 [.agg (eRv τ r)] [] ⟨.int .i64 (checkRv r), [], []⟩ := by
  refine pure_call mix Tryd.func79 fits79 rfl ?_
  conv => whnf
  refine ⟨_, fun _ => call81 _ r.st, ?_⟩
  by_cases hk : checkC r.st = 0
  case neg =>
    rw [show checkRv r = checkC r.st by unfold checkRv; rw [if_pos hk]]
    generalize checkC r.st = E at hk ⊢
    conv => whnf
    refine ⟨?_, fun _ => ?_, fun h => ?_⟩
    · (try conv => whnf)
      (repeat' (first | exact True.intro | exact fun _ h => h | refine inR64_of ?_ ?_ | apply And.intro | refine maxLen_ge ?_)) <;> (first | omega | (dsimp only; omega))
    · conv => whnf
      refine ⟨?_, [], ?_⟩
      · (try conv => whnf)
        (repeat' (first | exact True.intro | exact fun _ h => h | refine inR64_of ?_ ?_ | apply And.intro | refine maxLen_ge ?_)) <;> (first | omega | (dsimp only; omega))
      conv => whnf
      refine ⟨rfl, ?_, trivial, trivial⟩
      all_goals repeat' (first | exact True.intro | refine leF_cons rfl ?_ ?_ | refine leS_cons rfl ?_ ?_ | (show PLe _ _ _ _; conv => whnf) | (show SLe _ _ _ _; conv => whnf) | (show PLeL _ _ _ _; conv => whnf) | apply And.intro | rfl | exact Nat.le_refl _ | exact fun _ _ => rfl | exact rowEq0 _ _)
    · exact absurd (show E = 0 by simpa using h) hk
  have hg := (check_good r.st).1 hk
  have hlen := hg.le
  rw [hk]
  conv => whnf
  refine ⟨?_, fun h => (by cases h), fun _ => ?_⟩
  · (try conv => whnf)
    (repeat' (first | exact True.intro | exact fun _ h => h | refine inR64_of ?_ ?_ | apply And.intro | refine maxLen_ge ?_)) <;> (first | omega | (dsimp only; omega))
  conv => whnf
  refine ⟨?_, fun hc => ?_, fun hc => ?_⟩
  · (try conv => whnf)
    (repeat' (first | exact True.intro | exact fun _ h => h | refine inR64_of ?_ ?_ | apply And.intro | refine maxLen_ge ?_)) <;> (first | omega | (dsimp only; omega))
  · have h2 : (r.st.length : Int) < 2 := of_decide_eq_true hc
    rw [show checkRv r = 3 by unfold checkRv; rw [if_neg (by rw [hk]; decide), if_pos (by omega)]]
    conv => whnf
    refine ⟨?_, [], ?_⟩
    · (try conv => whnf)
      (repeat' (first | exact True.intro | exact fun _ h => h | refine inR64_of ?_ ?_ | apply And.intro | refine maxLen_ge ?_)) <;> (first | omega | (dsimp only; omega))
    conv => whnf
    refine ⟨rfl, ?_, trivial, trivial⟩
    all_goals repeat' (first | exact True.intro | refine leF_cons rfl ?_ ?_ | refine leS_cons rfl ?_ ?_ | (show PLe _ _ _ _; conv => whnf) | (show SLe _ _ _ _; conv => whnf) | (show PLeL _ _ _ _; conv => whnf) | apply And.intro | rfl | exact Nat.le_refl _ | exact fun _ _ => rfl | exact rowEq0 _ _)
  have h2 : ¬ (r.st.length : Int) < 2 := of_decide_eq_false hc
  have hch : checkRv r = if ¬ resP1 r then 1 else if ¬ resP2 r then 4 else if ¬ resP3 r then 4 else 0 := by unfold checkRv; rw [if_neg (by rw [hk]; decide), if_neg (by omega)]
  clear hc
  conv => whnf
  refine ⟨trivial, ?_⟩
  refine LSem.loop (n := 90) mix (α := Nat) (fun i => i ≤ r.st.length ∧ ∀ k, k < i → (r.st.getD k default).x ≤ 16777216)
    (fun i => [(1, .pt 16 0 0), (4, .int .i64 r.st.length), (22, .sl τ 2 r.st.length (fl ePt r.st)), (23, .int .i64 r.st.length), (24, .int .i64 i)])
    (fun _ => [(16, .box (eRv τ r))]) (fun i => r.st.length - i) 0 ?_ ?_ ?_
  · exact ⟨Nat.zero_le _, fun k hk => absurd hk (Nat.not_lt_zero _)⟩
  · refine ⟨rfl, rfl, ?_, ?_⟩
    all_goals repeat' (first | exact True.intro | refine leF_cons rfl ?_ ?_ | refine leS_cons rfl ?_ ?_ | (show PLe _ _ _ _; conv => whnf) | (show SLe _ _ _ _; conv => whnf) | (show PLeL _ _ _ _; conv => whnf) | apply And.intro | rfl | exact Nat.le_refl _ | exact fun _ _ => rfl | exact rowEq0 _ _)
  · intro i hi
    obtain ⟨hi, hall⟩ := hi
    have hj : ((i : Int)).toNat = i := by omega
    conv => whnf
    refine ⟨trivial, fun hc => ?_, fun hc => ?_⟩
    · replace hc := of_decide_eq_true hc
      have hlt : i < r.st.length := by
        have h : (i : Int) < r.st.length := hc
        omega
      conv => whnf
      rw [hj]
      refine ⟨?_, fun h1 => ?_, fun h1 => ?_⟩
      · (try conv => whnf)
        (repeat' (first | exact True.intro | exact fun _ h => h | refine inR64_of ?_ ?_ | apply And.intro | refine maxLen_ge ?_)) <;> (first | omega | (dsimp only; omega))
      · have h1 : 16777216 < (r.st.getD i default).x := of_decide_eq_true h1
        rw [show checkRv r = 1 by rw [hch, if_pos (fun h => by have := h i hlt; omega)]]
        conv => whnf
        refine ⟨?_, [], ?_⟩
        · (try conv => whnf)
          (repeat' (first | exact True.intro | exact fun _ h => h | refine inR64_of ?_ ?_ | apply And.intro | refine maxLen_ge ?_)) <;> (first | omega | (dsimp only; omega))
        conv => whnf
        refine ⟨rfl, ?_, trivial, trivial⟩
        all_goals repeat' (first | exact True.intro | refine leF_cons rfl ?_ ?_ | refine leS_cons rfl ?_ ?_ | (show PLe _ _ _ _; conv => whnf) | (show SLe _ _ _ _; conv => whnf) | (show PLeL _ _ _ _; conv => whnf) | apply And.intro | rfl | exact Nat.le_refl _ | exact fun _ _ => rfl | exact rowEq0 _ _)
      · have h1 : ¬ 16777216 < (r.st.getD i default).x := of_decide_eq_false h1
        conv => whnf
        refine ⟨?_, i + 1, ⟨hlt, fun k hk => ?_⟩, by omega, rfl, rfl, ?_, ?_⟩
        · (try conv => whnf)
          (repeat' (first | exact True.intro | exact fun _ h => h | refine inR64_of ?_ ?_ | apply And.intro | refine maxLen_ge ?_)) <;> (first | omega | (dsimp only; omega))
        · rcases Nat.lt_or_ge k i with h | h
          · exact hall k h
          · rw [show k = i by omega]; omega
        all_goals repeat' (first | exact True.intro | refine leF_cons rfl ?_ ?_ | refine leS_cons rfl ?_ ?_ | (show PLe _ _ _ _; conv => whnf) | (show SLe _ _ _ _; conv => whnf) | (show PLeL _ _ _ _; conv => whnf) | apply And.intro | rfl | exact Nat.le_refl _ | exact fun _ _ => rfl | exact rowEq0 _ _)
        all_goals first | omega | skip
    · replace hc := of_decide_eq_false hc
      have hk : i = r.st.length := by
        have h : ¬ (i : Int) < r.st.length := hc
        omega
      subst hk
      have hp1 : resP1 r := hall
      rw [if_neg (fun h => h hp1)] at hch
      clear hall hc
      conv => whnf
      refine ⟨trivial, ?_⟩
      refine LSem.loop (n := 90) mix (α := Nat) (fun i => 1 ≤ i ∧ i ≤ r.st.length ∧ ∀ k, k < i → 0 < k → (r.st.getD (k - 1) default).y < (r.st.getD k default).y)
        (fun i => [(1, .pt 16 0 0), (4, .int .i64 r.st.length), (7, .int .i64 i)])
        (fun _ => [(16, .box (eRv τ r))]) (fun i => r.st.length - i) 1 ?_ ?_ ?_
      · exact ⟨Nat.le_refl _, by omega, fun k hk h0 => by omega⟩
      · refine ⟨rfl, rfl, ?_, ?_⟩
        all_goals repeat' (first | exact True.intro | refine leF_cons rfl ?_ ?_ | refine leS_cons rfl ?_ ?_ | (show PLe _ _ _ _; conv => whnf) | (show SLe _ _ _ _; conv => whnf) | (show PLeL _ _ _ _; conv => whnf) | apply And.intro | rfl | exact Nat.le_refl _ | exact fun _ _ => rfl | exact rowEq0 _ _)
      · intro i hi
        obtain ⟨hi1, hi, hall⟩ := hi
        have hj : ((i : Int)).toNat = i := by omega
        have hj1 : ((i : Int) - 1).toNat = i - 1 := by omega
        conv => whnf
        refine ⟨trivial, fun hc => ?_, fun hc => ?_⟩
        · replace hc := of_decide_eq_true hc
          have hlt : i < r.st.length := by
            have h : (i : Int) < r.st.length := hc
            omega
          conv => whnf
          refine ⟨rfl, ?_⟩
          conv => whnf
          rw [hj, hj1]
          refine ⟨?_, fun h1 => ?_, fun h1 => ?_⟩
          · (try conv => whnf)
            (repeat' (first | exact True.intro | exact fun _ h => h | refine inR64_of ?_ ?_ | apply And.intro | refine maxLen_ge ?_)) <;> (first | omega | (dsimp only; omega))
          · have h1 : (r.st.getD i default).y ≤ (r.st.getD (i - 1) default).y := of_decide_eq_true h1
            rw [show checkRv r = 4 by rw [hch, if_pos (fun h => by have := h i hlt (by omega); omega)]]
            conv => whnf
            refine ⟨?_, [], ?_⟩
            · (try conv => whnf)
              (repeat' (first | exact True.intro | exact fun _ h => h | refine inR64_of ?_ ?_ | apply And.intro | refine maxLen_ge ?_)) <;> (first | omega | (dsimp only; omega))
            conv => whnf
            refine ⟨rfl, ?_, trivial, trivial⟩
            all_goals repeat' (first | exact True.intro | refine leF_cons rfl ?_ ?_ | refine leS_cons rfl ?_ ?_ | (show PLe _ _ _ _; conv => whnf) | (show SLe _ _ _ _; conv => whnf) | (show PLeL _ _ _ _; conv => whnf) | apply And.intro | rfl | exact Nat.le_refl _ | exact fun _ _ => rfl | exact rowEq0 _ _)
          · have h1 : ¬ (r.st.getD i default).y ≤ (r.st.getD (i - 1) default).y := of_decide_eq_false h1
            conv => whnf
            refine ⟨?_, i + 1, ⟨by omega, hlt, fun k hk h0 => ?_⟩, by omega, rfl, rfl, ?_, ?_⟩
            · (try conv => whnf)
              (repeat' (first | exact True.intro | exact fun _ h => h | refine inR64_of ?_ ?_ | apply And.intro | refine maxLen_ge ?_)) <;> (first | omega | (dsimp only; omega))
            · rcases Nat.lt_or_ge k i with h | h
              · exact hall k h h0
              · rw [show k = i by omega]; omega
            all_goals repeat' (first | exact True.intro | refine leF_cons rfl ?_ ?_ | refine leS_cons rfl ?_ ?_ | (show PLe _ _ _ _; conv => whnf) | (show SLe _ _ _ _; conv => whnf) | (show PLeL _ _ _ _; conv => whnf) | apply And.intro | rfl | exact Nat.le_refl _ | exact fun _ _ => rfl | exact rowEq0 _ _)
            all_goals first | omega | skip
        · replace hc := of_decide_eq_false hc
          have hk : i = r.st.length := by
            have h : ¬ (i : Int) < r.st.length := hc
            omega
          subst hk
          have hp2 : resP2 r := hall
          rw [if_neg (fun h => h hp2)] at hch
          clear hall hc
          conv => whnf
          refine ⟨rfl, ?_⟩
          conv => whnf
          have hjl : ((r.st.length : Int) - 1).toNat = r.st.length - 1 := by omega
          refine ⟨?_, ?_⟩
          · (try conv => whnf)
            (repeat' (first | exact True.intro | exact fun _ h => h | refine inR64_of ?_ ?_ | apply And.intro | refine maxLen_ge ?_)) <;> (first | omega | (dsimp only; omega))
          refine LSem.loop (n := 90) mix (α := Nat) (fun i => 1 ≤ i ∧ i ≤ 7 ∧ ∀ k, k < i → 0 < k → (resL r).getD (k - 1) default ≤ (resL r).getD k default)
            (fun i => [(8, .os 1168), (9, .int .i64 i)])
            (fun _ => [(1168, .row 0 3 1 7 (fl eInt (resL r)))]) (fun i => 7 - i) 1 ?_ ?_ ?_
          · exact ⟨Nat.le_refl _, by omega, fun k hk h0 => by omega⟩
          · refine ⟨rfl, rfl, ?_, ?_⟩
            all_goals repeat' (first | exact True.intro | refine leF_cons rfl ?_ ?_ | refine leS_cons rfl ?_ ?_ | (show PLe _ _ _ _; conv => whnf) | (show SLe _ _ _ _; conv => whnf) | (show PLeL _ _ _ _; conv => whnf) | apply And.intro | rfl | exact Nat.le_refl _ | exact fun _ _ => rfl | exact rowEq0 _ _)
            all_goals first | (rw [hjl]; exact rows7 _ _ _ _ _ _ _) | skip
          · intro i hi
            obtain ⟨hi1, hi, hall⟩ := hi
            have hj : ((i : Int)).toNat = i := by omega
            have hj1 : ((i : Int) - 1).toNat = i - 1 := by omega
            generalize hRL : resL r = RL at hall
            conv => whnf
            refine ⟨?_, fun hc => ?_, fun hc => ?_⟩
            · (try conv => whnf)
              (repeat' (first | exact True.intro | exact fun _ h => h | refine inR64_of ?_ ?_ | apply And.intro | refine maxLen_ge ?_)) <;> (first | omega | (dsimp only; omega))
            · replace hc := of_decide_eq_true hc
              have hlt : i < 7 := by
                have h : (i : Int) < 7 := hc
                omega
              conv => whnf
              refine ⟨rfl, ?_⟩
              conv => whnf
              rw [hj, hj1]
              refine ⟨?_, fun h1 => ?_, fun h1 => ?_⟩
              · (try conv => whnf)
                (repeat' (first | exact True.intro | exact fun _ h => h | refine inR64_of ?_ ?_ | apply And.intro | refine maxLen_ge ?_)) <;> (first | omega | (dsimp only; omega))
              · have h1 : RL.getD i default < RL.getD (i - 1) default := of_decide_eq_true h1
                rw [show checkRv r = 4 by rw [hch, if_pos (fun h => by have := h i hlt (by omega); rw [hRL] at this; omega)]]
                conv => whnf
                refine ⟨?_, [], ?_⟩
                · (try conv => whnf)
                  (repeat' (first | exact True.intro | exact fun _ h => h | refine inR64_of ?_ ?_ | apply And.intro | refine maxLen_ge ?_)) <;> (first | omega | (dsimp only; omega))
                conv => whnf
                refine ⟨rfl, ?_, trivial, trivial⟩
                all_goals repeat' (first | exact True.intro | refine leF_cons rfl ?_ ?_ | refine leS_cons rfl ?_ ?_ | (show PLe _ _ _ _; conv => whnf) | (show SLe _ _ _ _; conv => whnf) | (show PLeL _ _ _ _; conv => whnf) | apply And.intro | rfl | exact Nat.le_refl _ | exact fun _ _ => rfl | exact rowEq0 _ _)
              · have h1 : ¬ RL.getD i default < RL.getD (i - 1) default := of_decide_eq_false h1
                conv => whnf
                refine ⟨?_, i + 1, ⟨by omega, hlt, fun k hk h0 => ?_⟩, by omega, rfl, rfl, ?_, ?_⟩
                · (try conv => whnf)
                  (repeat' (first | exact True.intro | exact fun _ h => h | refine inR64_of ?_ ?_ | apply And.intro | refine maxLen_ge ?_)) <;> (first | omega | (dsimp only; omega))
                · rcases Nat.lt_or_ge k i with h | h
                  · exact hall k h h0
                  · rw [show k = i by omega]; omega
                all_goals repeat' (first | exact True.intro | refine leF_cons rfl ?_ ?_ | refine leS_cons rfl ?_ ?_ | (show PLe _ _ _ _; conv => whnf) | (show SLe _ _ _ _; conv => whnf) | (show PLeL _ _ _ _; conv => whnf) | apply And.intro | rfl | exact Nat.le_refl _ | exact fun _ _ => rfl | exact rowEq0 _ _)
                all_goals first | omega | (rw [hRL]; done) | (rw [hRL]; exact fun _ _ => rfl) | skip
            · replace hc := of_decide_eq_false hc
              have hk : i = 7 := by
                have h : ¬ (i : Int) < 7 := hc
                omega
              subst hk
              have hp3 : resP3 r := by rw [← hRL] at hall; exact hall
              rw [if_neg (fun h => h hp3)] at hch
              rw [hch]
              conv => whnf
              refine ⟨?_, [], ?_⟩
              · (try conv => whnf)
                (repeat' (first | exact True.intro | exact fun _ h => h | refine inR64_of ?_ ?_ | apply And.intro | refine maxLen_ge ?_)) <;> (first | omega | (dsimp only; omega))
              conv => whnf
              refine ⟨rfl, ?_, trivial, trivial⟩
              all_goals repeat' (first | exact True.intro | refine leF_cons rfl ?_ ?_ | refine leS_cons rfl ?_ ?_ | (show PLe _ _ _ _; conv => whnf) | (show SLe _ _ _ _; conv => whnf) | (show PLeL _ _ _ _; conv => whnf) | apply And.intro | rfl | exact Nat.le_refl _ | exact fun _ _ => rfl | exact rowEq0 _ _)
set_option maxRecDepth 100000 in
theorem call64 (τ : Nat) (r : Rv) (level : Int) : PureCall Tryd.prog 64 [.agg (eRv τ r), .int .i64 level] [] ⟨.int .i64 (wrongRv r level), [], []⟩ := by
  refine pure_call mix Tryd.func64 fits64 rfl ?_
  conv => whnf
  refine ⟨_, fun _ => call79 _ r, ?_⟩
  unfold wrongRv
  generalize checkRv r = E
  by_cases hk : E = 0
  · subst hk
    rw [if_neg (by decide)]
    conv => whnf
    refine ⟨?_, fun h => (by cases h), fun _ => ?_⟩
    · (try conv => whnf)
      (repeat' (first | exact True.intro | exact fun _ h => h | refine inR64_of ?_ ?_ | apply And.intro | refine maxLen_ge ?_)) <;> (first | omega | (dsimp only; omega))
    conv => whnf
    refine ⟨_, fun _ => call80 level 16777216, ?_⟩
    by_cases hl : 0 ≤ level ∧ level ≤ 16777216
    · rw [if_neg (fun h => h hl), decide_eq_true hl]
      conv => whnf
      refine ⟨?_, fun h => (by cases h), fun _ => ?_⟩
      · (try conv => whnf)
        (repeat' (first | exact True.intro | exact fun _ h => h | refine inR64_of ?_ ?_ | apply And.intro | refine maxLen_ge ?_)) <;> (first | omega | (dsimp only; omega))
      conv => whnf
      refine ⟨?_, [], ?_⟩
      · (try conv => whnf)
        (repeat' (first | exact True.intro | exact fun _ h => h | refine inR64_of ?_ ?_ | apply And.intro | refine maxLen_ge ?_)) <;> (first | omega | (dsimp only; omega))
      conv => whnf
      refine ⟨rfl, ?_, trivial, trivial⟩
      all_goals repeat' (first | exact True.intro | refine leF_cons rfl ?_ ?_ | refine leS_cons rfl ?_ ?_ | (show PLe _ _ _ _; conv => whnf) | (show SLe _ _ _ _; conv => whnf) | (show PLeL _ _ _ _; conv => whnf) | apply And.intro | rfl | exact Nat.le_refl _ | exact fun _ _ => rfl | exact rowEq0 _ _)
    · rw [if_pos hl, decide_eq_false hl]
      conv => whnf
      refine ⟨?_, fun _ => ?_, fun h => (by cases h)⟩
      · (try conv => whnf)
        (repeat' (first | exact True.intro | exact fun _ h => h | refine inR64_of ?_ ?_ | apply And.intro | refine maxLen_ge ?_)) <;> (first | omega | (dsimp only; omega))
      conv => whnf
      refine ⟨?_, [], ?_⟩
      · (try conv => whnf)
        (repeat' (first | exact True.intro | exact fun _ h => h | refine inR64_of ?_ ?_ | apply And.intro | refine maxLen_ge ?_)) <;> (first | omega | (dsimp only; omega))
      conv => whnf
      refine ⟨rfl, ?_, trivial, trivial⟩
      all_goals repeat' (first | exact True.intro | refine leF_cons rfl ?_ ?_ | refine leS_cons rfl ?_ ?_ | (show PLe _ _ _ _; conv => whnf) | (show SLe _ _ _ _; conv => whnf) | (show PLeL _ _ _ _; conv => whnf) | apply And.intro | rfl | exact Nat.le_refl _ | exact fun _ _ => rfl | exact rowEq0 _ _)
  · rw [if_pos hk]
    conv => whnf
    refine ⟨?_, fun _ => ?_, fun h => ?_⟩
    · (try conv => whnf)
      (repeat' (first | exact True.intro | exact fun _ h => h | refine inR64_of ?_ ?_ | apply And.intro | refine maxLen_ge ?_)) <;> (first | omega | (dsimp only; omega))
    · conv => whnf
      refine ⟨?_, [], ?_⟩
      · (try conv => whnf)
        (repeat' (first | exact True.intro | exact fun _ h => h | refine inR64_of ?_ ?_ | apply And.intro | refine maxLen_ge ?_)) <;> (first | omega | (dsimp only; omega))
      conv => whnf
      refine ⟨rfl, ?_, trivial, trivial⟩
      all_goals repeat' (first | exact True.intro | refine leF_cons rfl ?_ ?_ | refine leS_cons rfl ?_ ?_ | (show PLe _ _ _ _; conv => whnf) | (show SLe _ _ _ _; conv => whnf) | (show PLeL _ _ _ _; conv => whnf) | apply And.intro | rfl | exact Nat.le_refl _ | exact fun _ _ => rfl | exact rowEq0 _ _)
    · exact absurd (show E = 0 by simpa using h) hk
set_option maxRecDepth 100000 in
theorem call52 (τ : Nat) (r : Rv) (level : Int) : PureCall Tryd.prog 52 [.agg (eRv τ r), .int .i64 level] [] ⟨.tup [.int .i64 (volF r level).1, .int .i64 (volF r level).2], [], []⟩ := by
  refine pure_call mix Tryd.func52 fits52 rfl ?_
  conv => whnf
  refine ⟨_, fun _ => call64 _ r level, ?_⟩
  unfold volF
  generalize wrongRv r level = E
  by_cases hk : E = 0
  · subst hk
    rw [if_neg (by decide)]
    conv => whnf
    refine ⟨?_, fun h => (by cases h), fun _ => ?_⟩
    · (try conv => whnf)
      (repeat' (first | exact True.intro | exact fun _ h => h | refine inR64_of ?_ ?_ | apply And.intro | refine maxLen_ge ?_)) <;> (first | omega | (dsimp only; omega))
    conv => whnf
    refine ⟨_, fun _ => call65 _ r.st level, ?_⟩
    conv => whnf
    refine ⟨?_, [], ?_⟩
    · (try conv => whnf)
      (repeat' (first | exact True.intro | exact fun _ h => h | refine inR64_of ?_ ?_ | apply And.intro | refine maxLen_ge ?_)) <;> (first | omega | (dsimp only; omega))
    conv => whnf
    refine ⟨rfl, ?_, trivial, trivial⟩
    all_goals repeat' (first | exact True.intro | refine leF_cons rfl ?_ ?_ | refine leS_cons rfl ?_ ?_ | (show PLe _ _ _ _; conv => whnf) | (show SLe _ _ _ _; conv => whnf) | (show PLeL _ _ _ _; conv => whnf) | apply And.intro | rfl | exact Nat.le_refl _ | exact fun _ _ => rfl | exact rowEq0 _ _)
  · rw [if_pos hk]
    conv => whnf
    refine ⟨?_, fun _ => ?_, fun h => ?_⟩
    · (try conv => whnf)
      (repeat' (first | exact True.intro | exact fun _ h => h | refine inR64_of ?_ ?_ | apply And.intro | refine maxLen_ge ?_)) <;> (first | omega | (dsimp only; omega))
    · conv => whnf
      refine ⟨?_, [], ?_⟩
      · (try conv => whnf)
        (repeat' (first | exact True.intro | exact fun _ h => h | refine inR64_of ?_ ?_ | apply And.intro | refine maxLen_ge ?_)) <;> (first | omega | (dsimp only; omega))
      conv => whnf
      refine ⟨rfl, ?_, trivial, trivial⟩
      all_goals repeat' (first | exact True.intro | refine leF_cons rfl ?_ ?_ | refine leS_cons rfl ?_ ?_ | (show PLe _ _ _ _; conv => whnf) | (show SLe _ _ _ _; conv => whnf) | (show PLeL _ _ _ _; conv => whnf) | apply And.intro | rfl | exact Nat.le_refl _ | exact fun _ _ => rfl | exact rowEq0 _ _)
    · exact absurd (show E = 0 by simpa using h) hk
theorem volF_rng (r : Rv) (level : Int) : 0 ≤ (volF r level).1 ∧ (volF r level).1 ≤ 274877906944 := by
  unfold volF
  split
  · dsimp only; omega
  · unfold atC
    split
    · rename_i h
      exact val_rng ((check_good r.st).1 h) level
    · dsimp only; omega
/-! ### reservoirs that are made -/
def lvD (last : Int) (i : Int) (a : Int) : Int := (last - a) / (5 - i) + 1
def lvN (last : Int) (i : Int) (s : Int × Dk) : Int × Dk := (s.1 + nxt s.2 (lvD last i s.1), nxtD s.2 (lvD last i s.1))
def lvS (last : Int) (s : Int × Dk) : Nat → Int × Dk
  | 0 => s
  | i + 1 => lvN last i (lvS last s i)
def resC (d : Dk) : Cst := curveS (nxtD (nxtD d 10) 20) (100 + nxt d 10) (nxt (nxtD d 10) 20) 40 200 1
def resS (c : Cst) : Nat → Int × Dk := lvS (c.L.getD (c.L.length - 1) default).x ((c.L.getD 0 default).x, c.d)
def resF (d : Dk) : Rv × Dk := (⟨(resC d).L, (resS (resC d) 1).1, (resS (resC d) 2).1, (resS (resC d) 3).1, (resS (resC d) 4).1, (resS (resC d) 5).1⟩, (resS (resC d) 5).2)
theorem lvS_ok {last : Int} {s : Int × Dk} (h : s.1 ≤ last) : ∀ i, i ≤ 5 → (s.1 ≤ (lvS last s i).1 ∧ (lvS last s i).1 ≤ last) ∧ (lvS last s i).2.at_ ≤ s.2.at_ + i
  | 0, _ => by simp only [lvS]; omega
  | i + 1, hi => by
    have ih := lvS_ok h i (by omega)
    simp only [lvS, lvN]
    generalize lvS last s i = t at ih ⊢
    have hq : 0 ≤ (last - t.1) / (5 - (i : Int)) ∧ (last - t.1) / (5 - (i : Int)) ≤ last - t.1 := ⟨Int.ediv_nonneg (by omega) (by omega), Int.ediv_le_self _ (by omega)⟩
    have r := nxt_lt t.2 (n := lvD last i t.1) (by unfold lvD; omega)
    have a := nxtD_at t.2 (lvD last i t.1)
    unfold lvD at r a ⊢
    omega
theorem made_ends {c : List Pt} (h : MadeC c) : 0 ≤ (c.getD 0 default).x ∧ (c.getD 0 default).x ≤ (c.getD (c.length - 1) default).x ∧ (c.getD (c.length - 1) default).x ≤ 6000 := by
  have h1 := h.len
  have h2 := (h.good).xs (c.length - 1) 0 (by omega)
  have h3 := h.rng 0 (by omega)
  have h4 := h.rng (c.length - 1) (by omega)
  rw [Nat.zero_add] at h2
  omega
theorem resC_ok (d : Dk) : MadeC (resC d).L ∧ (resC d).d.at_ ≤ d.at_ + 11 := by
  have r1 := nxt_lt d (n := 10) (by omega)
  have a1 := nxtD_at d 10
  have r2 := nxt_lt (nxtD d 10) (n := 20) (by omega)
  have a2 := nxtD_at (nxtD d 10) 20
  have h := curve_made (nxtD (nxtD d 10) 20) (x := 100 + nxt d 10) (y := nxt (nxtD d 10) 20) (dx := 40) (dy := 200) (least := 1) (by omega) (by omega) (by omega) (by omega) (by omega)
  unfold resC
  exact ⟨h.1, by omega⟩
theorem resF_at (d : Dk) : (resF d).2.at_ ≤ d.at_ + 16 := by
  have h := resC_ok d
  have he := made_ends h.1
  have := (lvS_ok (last := ((resC d).L.getD ((resC d).L.length - 1) default).x) (s := (((resC d).L.getD 0 default).x, (resC d).d)) he.2.1 5 (Nat.le_refl _)).2
  unfold resF resS
  dsimp only at this ⊢
  omega
set_option maxRecDepth 100000 in
set_option maxHeartbeats 8000000 in
theorem call49 (d : Dk) (hd : d.at_ ≤ 970000000) : PureCall Tryd.prog 49 [.pt 0 0 0] [.box (eDk 1 d)] ⟨.agg (eRv 0 (resF d).1), [.box (eDk 1 (resF d).2)], []⟩ := by
  refine pure_call mix Tryd.func49 fits49 rfl ?_
  conv => whnf
  have hC := resC_ok d
  have hCd : resC d = curveS (nxtD (nxtD d 10) 20) (100 + nxt d 10) (nxt (nxtD d 10) 20) 40 200 1 := rfl
  refine ⟨_, fun _ => call_next 1 d 10 (by omega) (by omega), ?_⟩
  have r1 := nxt_lt d (n := 10) (by omega)
  have a1 := nxtD_at d 10
  conv => whnf
  refine ⟨_, fun _ => call_next 1 (nxtD d 10) 20 (by omega) (by omega), ?_⟩
  have r2 := nxt_lt (nxtD d 10) (n := 20) (by omega)
  have a2 := nxtD_at (nxtD d 10) 20
  conv => whnf
  refine ⟨_, fun _ => call60 (nxtD (nxtD d 10) 20) (100 + nxt d 10) (nxt (nxtD d 10) 20) 40 200 true (by omega) (by omega) (by omega) (by omega) (by omega), ?_⟩
  rw [show lst true = 1 from rfl, ← hCd]
  unfold resF
  have hS : resS (resC d) = lvS ((resC d).L.getD ((resC d).L.length - 1) default).x (((resC d).L.getD 0 default).x, (resC d).d) := rfl
  generalize resC d = c at hC hS ⊢
  obtain ⟨hM, hat⟩ := hC
  have hlen := hM.len
  have he := made_ends hM
  have hok := lvS_ok (last := (c.L.getD (c.L.length - 1) default).x) (s := ((c.L.getD 0 default).x, c.d)) he.2.1
  have hjl : ((c.L.length : Int) - 1).toNat = c.L.length - 1 := by omega
  conv => whnf
  rw [hjl]
  generalize (c.L.getD (c.L.length - 1) default).x = last at he hok hS ⊢
  rw [← hS] at hok
  have h0 : resS c 0 = ((c.L.getD 0 default).x, c.d) := by rw [hS]; rfl
  have hn : ∀ i, resS c (i + 1) = lvN last i (resS c i) := fun i => by rw [hS]; rfl
  clear hS
  generalize resS c = S at hok h0 hn ⊢
  refine ⟨?_, ?_⟩
  · (try conv => whnf)
    (repeat' (first | exact True.intro | exact fun _ h => h | refine inR64_of ?_ ?_ | apply And.intro | refine maxLen_ge ?_)) <;> (first | omega | (dsimp only; omega))
  refine LSem.loop (n := 64) mix (α := Nat) (fun i => i ≤ 5)
    (fun i => [(0, .pt 0 0 0), (2, .pt 32 0 0), (3, .pt 48 0 0), (4, .int .i64 (S i).1), (5, .int .i64 last), (6, .pt 96 0 0), (30, .int .i64 i)])
    (fun i => [(0, .box (eDk 1 (S i).2)), (32, .box [.nil 2, .int .i64 0, .int .i64 0, .int .i64 0, .int .i64 0, .int .i64 0]), (48, .box [.sl 0 2 c.L.length (fl ePt c.L), .int .i64 0, .int .i64 0, .int .i64 0, .int .i64 0, .int .i64 0]),
      (96, .box [.int .i64 (if 0 < i then (S 1).1 else 0), .int .i64 (if 1 < i then (S 2).1 else 0), .int .i64 (if 2 < i then (S 3).1 else 0), .int .i64 (if 3 < i then (S 4).1 else 0), .int .i64 (if 4 < i then (S 5).1 else 0)])])
    (fun i => 5 - i) 0 ?_ ?_ ?_
  · exact Nat.zero_le _
  · refine ⟨rfl, rfl, ?_, ?_⟩
    all_goals repeat' (first | exact True.intro | refine leF_cons rfl ?_ ?_ | refine leS_cons rfl ?_ ?_ | (show PLe _ _ _ _; conv => whnf) | (show SLe _ _ _ _; conv => whnf) | (show PLeL _ _ _ _; conv => whnf) | apply And.intro | rfl | exact Nat.le_refl _ | exact fun _ _ => rfl | exact rowEq0 _ _)
    all_goals first | (rw [h0]; done) | (rw [h0]; rfl) | (rw [h0]; exact fun _ _ => rfl) | skip
  · intro i hi
    have h012345 : i = 0 ∨ i = 1 ∨ i = 2 ∨ i = 3 ∨ i = 4 ∨ i = 5 := by omega
    have hoi := hok i hi
    dsimp only at hoi
    have hni := hn i
    have hq := fun h5 : i < 5 => (show 0 ≤ (last - (S i).1) / (5 - (i : Int)) ∧ (last - (S i).1) / (5 - (i : Int)) ≤ last - (S i).1 from ⟨Int.ediv_nonneg (by omega) (by omega), Int.ediv_le_self _ (by omega)⟩)
    rcases h012345 with rfl | rfl | rfl | rfl | rfl | rfl
    · conv => whnf
      refine ⟨trivial, fun _ => ?_, fun h => (by cases h)⟩
      have hdiv : Int.tdiv (last - (S 0).1) (5 - ((0 : Nat) : Int)) = (last - (S 0).1) / (5 - ((0 : Nat) : Int)) := Int.tdiv_eq_ediv_of_nonneg (by omega)
      have hqi := hq (by omega)
      conv => whnf
      rw [hdiv]
      have r := nxt_lt (S 0).2 (n := (last - (S 0).1) / (5 - ((0 : Nat) : Int)) + 1) (by omega)
      have a := nxtD_at (S 0).2 ((last - (S 0).1) / (5 - ((0 : Nat) : Int)) + 1)
      refine ⟨_, fun _ => call_next 1 (S 0).2 ((last - (S 0).1) / (5 - ((0 : Nat) : Int)) + 1) (by omega) (by omega), ?_⟩
      have h1 : (S 1).1 = (S 0).1 + nxt (S 0).2 ((last - (S 0).1) / (5 - ((0 : Nat) : Int)) + 1) := by rw [hni]; rfl
      have h2 : (S 1).2 = nxtD (S 0).2 ((last - (S 0).1) / (5 - ((0 : Nat) : Int)) + 1) := by rw [hni]; rfl
      rw [← h2]
      conv => whnf
      rw [← h1]
      refine ⟨?_, 1, by omega, by omega, rfl, rfl, ?_, ?_⟩
      · (try conv => whnf)
        (repeat' (first | exact True.intro | exact fun _ h => h | refine inR64_of ?_ ?_ | apply And.intro | refine maxLen_ge ?_)) <;> (first | omega | (dsimp only; omega))
      all_goals repeat' (first | exact True.intro | refine leF_cons rfl ?_ ?_ | refine leS_cons rfl ?_ ?_ | (show PLe _ _ _ _; conv => whnf) | (show SLe _ _ _ _; conv => whnf) | (show PLeL _ _ _ _; conv => whnf) | apply And.intro | rfl | exact Nat.le_refl _ | exact fun _ _ => rfl | exact rowEq0 _ _)
      all_goals first | omega | skip
    · conv => whnf
      refine ⟨trivial, fun _ => ?_, fun h => (by cases h)⟩
      have hdiv : Int.tdiv (last - (S 1).1) (5 - ((1 : Nat) : Int)) = (last - (S 1).1) / (5 - ((1 : Nat) : Int)) := Int.tdiv_eq_ediv_of_nonneg (by omega)
      have hqi := hq (by omega)
      conv => whnf
      rw [hdiv]
      have r := nxt_lt (S 1).2 (n := (last - (S 1).1) / (5 - ((1 : Nat) : Int)) + 1) (by omega)
      have a := nxtD_at (S 1).2 ((last - (S 1).1) / (5 - ((1 : Nat) : Int)) + 1)
      refine ⟨_, fun _ => call_next 1 (S 1).2 ((last - (S 1).1) / (5 - ((1 : Nat) : Int)) + 1) (by omega) (by omega), ?_⟩
      have h1 : (S 2).1 = (S 1).1 + nxt (S 1).2 ((last - (S 1).1) / (5 - ((1 : Nat) : Int)) + 1) := by rw [hni]; rfl
      have h2 : (S 2).2 = nxtD (S 1).2 ((last - (S 1).1) / (5 - ((1 : Nat) : Int)) + 1) := by rw [hni]; rfl
      rw [← h2]
      conv => whnf
      rw [← h1]
      refine ⟨?_, 2, by omega, by omega, rfl, rfl, ?_, ?_⟩
      · (try conv => whnf)
        (repeat' (first | exact True.intro | exact fun _ h => h | refine inR64_of ?_ ?_ | apply And.intro | refine maxLen_ge ?_)) <;> (first | omega | (dsimp only; omega))
      all_goals repeat' (first | exact True.intro | refine leF_cons rfl ?_ ?_ | refine leS_cons rfl ?_ ?_ | (show PLe _ _ _ _; conv => whnf) | (show SLe _ _ _ _; conv => whnf) | (show PLeL _ _ _ _; conv => whnf) | apply And.intro | rfl | exact Nat.le_refl _ | exact fun _ _ => rfl | exact rowEq0 _ _)
      all_goals first | omega | skip
    · conv => whnf
      refine ⟨trivial, fun _ => ?_, fun h => (by cases h)⟩
      have hdiv : Int.tdiv (last - (S 2).1) (5 - ((2 : Nat) : Int)) = (last - (S 2).1) / (5 - ((2 : Nat) : Int)) := Int.tdiv_eq_ediv_of_nonneg (by omega)
      have hqi := hq (by omega)
      conv => whnf
      rw [hdiv]
      have r := nxt_lt (S 2).2 (n := (last - (S 2).1) / (5 - ((2 : Nat) : Int)) + 1) (by omega)
      have a := nxtD_at (S 2).2 ((last - (S 2).1) / (5 - ((2 : Nat) : Int)) + 1)
      refine ⟨_, fun _ => call_next 1 (S 2).2 ((last - (S 2).1) / (5 - ((2 : Nat) : Int)) + 1) (by omega) (by omega), ?_⟩
      have h1 : (S 3).1 = (S 2).1 + nxt (S 2).2 ((last - (S 2).1) / (5 - ((2 : Nat) : Int)) + 1) := by rw [hni]; rfl
      have h2 : (S 3).2 = nxtD (S 2).2 ((last - (S 2).1) / (5 - ((2 : Nat) : Int)) + 1) := by rw [hni]; rfl
      rw [← h2]
      conv => whnf
      rw [← h1]
      refine ⟨?_, 3, by omega, by omega, rfl, rfl, ?_, ?_⟩
      · (try conv => whnf)
        (repeat' (first | exact True.intro | exact fun _ h => h | refine inR64_of ?_ ?_ | apply And.intro | refine maxLen_ge ?_)) <;> (first | omega | (dsimp only; omega))
      all_goals repeat' (first | exact True.intro | refine leF_cons rfl ?_ ?_ | refine leS_cons rfl ?_ ?_ | (show PLe _ _ _ _; conv => whnf) | (show SLe _ _ _ _; conv => whnf) | (show PLeL _ _ _ _; conv => whnf) | apply And.intro | rfl | exact Nat.le_refl _ | exact fun _ _ => rfl | exact rowEq0 _ _)
      all_goals first | omega | skip
    · conv => whnf
      refine ⟨trivial, fun _ => ?_, fun h => (by cases h)⟩
      have hdiv : Int.tdiv (last - (S 3).1) (5 - ((3 : Nat) : Int)) = (last - (S 3).1) / (5 - ((3 : Nat) : Int)) := Int.tdiv_eq_ediv_of_nonneg (by omega)
      have hqi := hq (by omega)
      conv => whnf
      rw [hdiv]
      have r := nxt_lt (S 3).2 (n := (last - (S 3).1) / (5 - ((3 : Nat) : Int)) + 1) (by omega)
      have a := nxtD_at (S 3).2 ((last - (S 3).1) / (5 - ((3 : Nat) : Int)) + 1)
      refine ⟨_, fun _ => call_next 1 (S 3).2 ((last - (S 3).1) / (5 - ((3 : Nat) : Int)) + 1) (by omega) (by omega), ?_⟩
      have h1 : (S 4).1 = (S 3).1 + nxt (S 3).2 ((last - (S 3).1) / (5 - ((3 : Nat) : Int)) + 1) := by rw [hni]; rfl
      have h2 : (S 4).2 = nxtD (S 3).2 ((last - (S 3).1) / (5 - ((3 : Nat) : Int)) + 1) := by rw [hni]; rfl
      rw [← h2]
      conv => whnf
      rw [← h1]
      refine ⟨?_, 4, by omega, by omega, rfl, rfl, ?_, ?_⟩
      · (try conv => whnf)
        (repeat' (first | exact True.intro | exact fun _ h => h | refine inR64_of ?_ ?_ | apply And.intro | refine maxLen_ge ?_)) <;> (first | omega | (dsimp only; omega))
      all_goals repeat' (first | exact True.intro | refine leF_cons rfl ?_ ?_ | refine leS_cons rfl ?_ ?_ | (show PLe _ _ _ _; conv => whnf) | (show SLe _ _ _ _; conv => whnf) | (show PLeL _ _ _ _; conv => whnf) | apply And.intro | rfl | exact Nat.le_refl _ | exact fun _ _ => rfl | exact rowEq0 _ _)
      all_goals first | omega | skip
    · conv => whnf
      refine ⟨trivial, fun _ => ?_, fun h => (by cases h)⟩
      have hdiv : Int.tdiv (last - (S 4).1) (5 - ((4 : Nat) : Int)) = (last - (S 4).1) / (5 - ((4 : Nat) : Int)) := Int.tdiv_eq_ediv_of_nonneg (by omega)
      have hqi := hq (by omega)
      conv => whnf
      rw [hdiv]
      have r := nxt_lt (S 4).2 (n := (last - (S 4).1) / (5 - ((4 : Nat) : Int)) + 1) (by omega)
      have a := nxtD_at (S 4).2 ((last - (S 4).1) / (5 - ((4 : Nat) : Int)) + 1)
      refine ⟨_, fun _ => call_next 1 (S 4).2 ((last - (S 4).1) / (5 - ((4 : Nat) : Int)) + 1) (by omega) (by omega), ?_⟩
      have h1 : (S 5).1 = (S 4).1 + nxt (S 4).2 ((last - (S 4).1) / (5 - ((4 : Nat) : Int)) + 1) := by rw [hni]; rfl
      have h2 : (S 5).2 = nxtD (S 4).2 ((last - (S 4).1) / (5 - ((4 : Nat) : Int)) + 1) := by rw [hni]; rfl
      rw [← h2]
      conv => whnf
      rw [← h1]
      refine ⟨?_, 5, by omega, by omega, rfl, rfl, ?_, ?_⟩
      · (try conv => whnf)
        (repeat' (first | exact True.intro | exact fun _ h => h | refine inR64_of ?_ ?_ | apply And.intro | refine maxLen_ge ?_)) <;> (first | omega | (dsimp only; omega))
      all_goals repeat' (first | exact True.intro | refine leF_cons rfl ?_ ?_ | refine leS_cons rfl ?_ ?_ | (show PLe _ _ _ _; conv => whnf) | (show SLe _ _ _ _; conv => whnf) | (show PLeL _ _ _ _; conv => whnf) | apply And.intro | rfl | exact Nat.le_refl _ | exact fun _ _ => rfl | exact rowEq0 _ _)
      all_goals first | omega | skip
    · conv => whnf
      refine ⟨trivial, fun h => (by cases h), fun _ => ?_⟩
      conv => whnf
      refine ⟨rfl, ?_⟩
      conv => whnf
      refine ⟨?_, [], ?_⟩
      · (try conv => whnf)
        (repeat' (first | exact True.intro | exact fun _ h => h | refine inR64_of ?_ ?_ | apply And.intro | refine maxLen_ge ?_)) <;> (first | omega | (dsimp only; omega))
      conv => whnf
      refine ⟨rfl, ?_, ?_, trivial⟩
      all_goals repeat' (first | exact True.intro | refine leF_cons rfl ?_ ?_ | refine leS_cons rfl ?_ ?_ | (show PLe _ _ _ _; conv => whnf) | (show SLe _ _ _ _; conv => whnf) | (show PLeL _ _ _ _; conv => whnf) | apply And.intro | rfl | exact Nat.le_refl _ | exact fun _ _ => rfl | exact rowEq0 _ _)
end Pv
end Go.Proofs.YtafnkpmoolbjjaaDoor
/- UNITS: what the document's answer computes of them. -/
set_option linter.unusedSimpArgs false
set_option linter.unusedVariables false
namespace Go.Proofs.YtafnkpmoolbjjaaDoor
namespace Pv
def c91L1 : C := (.seq (.reg [⟨(some 47), 752, none, .bi false .lss (.t 46) (.t 45)⟩])
  (.seq (.cond (.t 47) .skip (.exit 0))
  (.seq (.block 1 (.seq (.reg [⟨(some 48), 768, none, .ia 2 (.t 44) (.t 46)⟩,
    ⟨(some 49), 784, none, .ld 2 true (.t 48)⟩,
    ⟨(some 5), 80, none, .al [(.int .i64 0), (.int .i64 0)]⟩,
    ⟨none, 0, none, .st 2 (.t 5) (.t 49)⟩])
  (.seq (.seq (.reg [⟨(some 50), 800, none, .fa 0 (.t 5)⟩,
    ⟨(some 51), 816, none, .ld 1 false (.t 50)⟩,
    ⟨(some 52), 832, none, .call (.c (.fn (.func 80) [] [])) [(.t 51), (.c (.int .i64 1073741824))]⟩,
    ⟨(some 53), 848, none, .un false .not (.t 52)⟩,
    ⟨(some 54), 864, none, .mv (.t 53)⟩,
    ⟨(some 55), 880, (some (54, false)), .fa 1 (.t 5)⟩,
    ⟨(some 56), 896, (some (54, false)), .ld 1 false (.t 55)⟩,
    ⟨(some 57), 912, (some (54, false)), .call (.c (.fn (.func 80) [] [])) [(.t 56), (.c (.int .i64 1073741824))]⟩,
    ⟨(some 58), 928, (some (54, false)), .un false .not (.t 57)⟩,
    ⟨(some 59), 944, none, .pick (.t 54) (.c (.bool true)) (.t 58)⟩])
  (.cond (.t 59) (.seq (.reg [⟨(some 2), 32, none, .mv (.c (.int .i64 1))⟩])
  .ret) .skip))
  (.seq (.reg [⟨(some 60), 960, none, .fa 0 (.t 5)⟩,
    ⟨(some 61), 976, none, .ld 1 false (.t 60)⟩,
    ⟨(some 62), 992, none, .fa 1 (.t 5)⟩,
    ⟨(some 63), 1008, none, .ld 1 false (.t 62)⟩,
    ⟨(some 64), 1024, none, .bi false .geq (.t 61) (.t 63)⟩])
  (.cond (.t 64) (.seq (.reg [⟨(some 2), 32, none, .mv (.c (.int .i64 4))⟩])
  .ret) .skip)))))
  (.reg [⟨(some 65), 1040, none, .bi false .add (.t 46) (.c (.int .i64 1))⟩,
    ⟨(some 46), 736, none, .mv (.t 65)⟩]))))
def c91 : C := (.seq (.reg [⟨(some 1), 16, none, .bx 6 (.t 0)⟩,
    ⟨(some 2), 32, none, .mv (.c (.int .i64 0))⟩])
  (.seq (.seq (.reg [⟨(some 6), 96, none, .fa 0 (.t 1)⟩,
    ⟨(some 7), 112, none, .ld 1 false (.t 6)⟩,
    ⟨(some 8), 128, none, .call (.c (.fn (.func 81) [] [])) [(.t 7)]⟩,
    ⟨(some 3), 48, none, .mv (.t 8)⟩])
  (.seq (.reg [⟨(some 9), 144, none, .mv (.t 3)⟩,
    ⟨(some 10), 160, none, .bi false .neq (.t 9) (.c (.int .i64 0))⟩])
  (.cond (.t 10) (.seq (.reg [⟨(some 11), 176, none, .mv (.t 3)⟩,
    ⟨(some 2), 32, none, .mv (.t 11)⟩])
  .ret) .skip)))
  (.seq (.seq (.reg [⟨(some 12), 192, none, .fa 0 (.t 1)⟩,
    ⟨(some 13), 208, none, .ld 1 false (.t 12)⟩,
    ⟨(some 14), 224, none, .fa 0 (.t 1)⟩,
    ⟨(some 15), 240, none, .ld 1 false (.t 14)⟩,
    ⟨(some 16), 256, none, .len (.t 15)⟩,
    ⟨(some 17), 272, none, .bi false .sub (.t 16) (.c (.int .i64 1))⟩,
    ⟨(some 18), 288, none, .ia 2 (.t 13) (.t 17)⟩,
    ⟨(some 19), 304, none, .fa 1 (.t 18)⟩,
    ⟨(some 20), 320, none, .ld 1 false (.t 19)⟩,
    ⟨(some 21), 336, none, .bi false .gtr (.t 20) (.c (.int .i64 1073741824))⟩,
    ⟨(some 22), 352, none, .mv (.t 21)⟩,
    ⟨(some 23), 368, (some (22, false)), .fa 1 (.t 1)⟩,
    ⟨(some 24), 384, (some (22, false)), .ld 1 false (.t 23)⟩,
    ⟨(some 25), 400, (some (22, false)), .bi false .lss (.t 24) (.c (.int .i64 1))⟩,
    ⟨(some 26), 416, none, .pick (.t 22) (.c (.bool true)) (.t 25)⟩,
    ⟨(some 27), 432, none, .mv (.t 26)⟩,
    ⟨(some 28), 448, (some (27, false)), .fa 1 (.t 1)⟩,
    ⟨(some 29), 464, (some (27, false)), .ld 1 false (.t 28)⟩,
    ⟨(some 30), 480, (some (27, false)), .fa 2 (.t 1)⟩,
    ⟨(some 31), 496, (some (27, false)), .ld 1 false (.t 30)⟩,
    ⟨(some 32), 512, (some (27, false)), .bi false .gtr (.t 29) (.t 31)⟩,
    ⟨(some 33), 528, none, .pick (.t 27) (.c (.bool true)) (.t 32)⟩,
    ⟨(some 34), 544, none, .mv (.t 33)⟩,
    ⟨(some 35), 560, (some (34, false)), .fa 2 (.t 1)⟩,
    ⟨(some 36), 576, (some (34, false)), .ld 1 false (.t 35)⟩,
    ⟨(some 37), 592, (some (34, false)), .bi false .gtr (.t 36) (.c (.int .i64 1073741824))⟩,
    ⟨(some 38), 608, none, .pick (.t 34) (.c (.bool true)) (.t 37)⟩])
  (.cond (.t 38) (.seq (.reg [⟨(some 2), 32, none, .mv (.c (.int .i64 1))⟩])
  .ret) .skip))
  (.seq (.seq (.reg [⟨(some 39), 624, none, .fa 3 (.t 1)⟩,
    ⟨(some 40), 640, none, .ld 1 false (.t 39)⟩,
    ⟨(some 41), 656, none, .len (.t 40)⟩,
    ⟨(some 42), 672, none, .bi false .gtr (.t 41) (.c (.int .i64 10))⟩])
  (.cond (.t 42) (.seq (.reg [⟨(some 2), 32, none, .mv (.c (.int .i64 10))⟩])
  .ret) .skip))
  (.seq (.seq (.reg [⟨(some 43), 688, none, .fa 3 (.t 1)⟩,
    ⟨(some 44), 704, none, .ld 1 false (.t 43)⟩,
    ⟨(some 45), 720, none, .len (.t 44)⟩,
    ⟨(some 46), 736, none, .mv (.c (.int .i64 0))⟩])
  (.block 0 (.loop c91L1)))
  (.seq (.seq (.reg [⟨(some 66), 1056, none, .fa 4 (.t 1)⟩,
    ⟨(some 67), 1072, none, .ld 1 false (.t 66)⟩,
    ⟨(some 68), 1088, none, .call (.c (.fn (.func 80) [] [])) [(.t 67), (.c (.int .i64 1000))]⟩,
    ⟨(some 69), 1104, none, .un false .not (.t 68)⟩,
    ⟨(some 70), 1120, none, .mv (.t 69)⟩,
    ⟨(some 71), 1136, (some (70, false)), .fa 5 (.t 1)⟩,
    ⟨(some 72), 1152, (some (70, false)), .ld 1 false (.t 71)⟩,
    ⟨(some 73), 1168, (some (70, false)), .call (.c (.fn (.func 80) [] [])) [(.t 72), (.c (.int .i64 1000))]⟩,
    ⟨(some 74), 1184, (some (70, false)), .un false .not (.t 73)⟩,
    ⟨(some 75), 1200, none, .pick (.t 70) (.c (.bool true)) (.t 74)⟩])
  (.cond (.t 75) (.seq (.reg [⟨(some 2), 32, none, .mv (.c (.int .i64 1))⟩])
  .ret) .skip))
  (.seq (.reg [⟨(some 2), 32, none, .mv (.c (.int .i64 0))⟩])
  .ret)))))))
theorem fits91 : fits Tryd.prog false Tryd.f91 1 76 [(2, none)] = some c91.er := by kernel_rfl
def c92L1 : C := (.seq (.reg [⟨(some 12), 192, none, .bi false .lss (.t 11) (.t 10)⟩])
  (.seq (.cond (.t 12) .skip (.exit 0))
  (.seq (.block 1 (.seq (.reg [⟨(some 13), 208, none, .ia 2 (.t 9) (.t 11)⟩,
    ⟨(some 14), 224, none, .ld 2 true (.t 13)⟩,
    ⟨(some 7), 112, none, .al [(.int .i64 0), (.int .i64 0)]⟩,
    ⟨none, 0, none, .st 2 (.t 7) (.t 14)⟩])
  (.seq (.reg [⟨(some 15), 240, none, .mv (.t 1)⟩,
    ⟨(some 16), 256, none, .fa 0 (.t 7)⟩,
    ⟨(some 17), 272, none, .ld 1 false (.t 16)⟩,
    ⟨(some 18), 288, none, .bi false .gtr (.t 15) (.t 17)⟩,
    ⟨(some 19), 304, none, .mv (.t 18)⟩,
    ⟨(some 20), 320, (some (19, true)), .mv (.t 1)⟩,
    ⟨(some 21), 336, (some (19, true)), .fa 1 (.t 7)⟩,
    ⟨(some 22), 352, (some (19, true)), .ld 1 false (.t 21)⟩,
    ⟨(some 23), 368, (some (19, true)), .bi false .lss (.t 20) (.t 22)⟩,
    ⟨(some 24), 384, none, .pick (.t 19) (.t 23) (.c (.bool false))⟩])
  (.cond (.t 24) (.seq (.reg [⟨(some 25), 400, none, .fa 1 (.t 7)⟩,
    ⟨(some 26), 416, none, .ld 1 false (.t 25)⟩,
    ⟨(some 4), 64, none, .mv (.t 26)⟩,
    ⟨(some 5), 80, none, .mv (.c (.bool true))⟩])
  .ret) .skip))))
  (.reg [⟨(some 27), 432, none, .bi false .add (.t 11) (.c (.int .i64 1))⟩,
    ⟨(some 11), 176, none, .mv (.t 27)⟩]))))
def c92 : C := (.seq (.reg [⟨(some 2), 32, none, .bx 6 (.t 0)⟩,
    ⟨(some 4), 64, none, .mv (.c (.int .i64 0))⟩,
    ⟨(some 5), 80, none, .mv (.c (.bool false))⟩])
  (.seq (.seq (.reg [⟨(some 8), 128, none, .fa 3 (.t 2)⟩,
    ⟨(some 9), 144, none, .ld 1 false (.t 8)⟩,
    ⟨(some 10), 160, none, .len (.t 9)⟩,
    ⟨(some 11), 176, none, .mv (.c (.int .i64 0))⟩])
  (.block 0 (.loop c92L1)))
  (.seq (.reg [⟨(some 4), 64, none, .mv (.c (.int .i64 0))⟩,
    ⟨(some 5), 80, none, .mv (.c (.bool false))⟩])
  .ret)))
theorem fits92 : fits Tryd.prog false Tryd.f92 2 28 [(4, none), (5, none)] = some c92.er := by kernel_rfl
def c78L1 : C := (.seq (.seq (.reg [⟨(some 31), 496, none, .mv (.t 8)⟩,
    ⟨(some 32), 512, none, .fa 2 (.t 2)⟩,
    ⟨(some 33), 528, none, .ld 1 false (.t 32)⟩,
    ⟨(some 34), 544, none, .bi false .leq (.t 31) (.t 33)⟩])
  (.cond (.t 34) .skip (.exit 0)))
  (.block 1 (.seq (.seq (.reg [⟨(some 36), 576, none, .ld 6 true (.t 2)⟩,
    ⟨(some 37), 592, none, .mv (.t 8)⟩,
    ⟨(some 38), 608, none, .call (.c (.fn (.func 92) [] [])) [(.t 36), (.t 37)]⟩,
    ⟨(some 35), 560, none, .mv (.t 38)⟩,
    ⟨(some 39), 624, none, .ex (.t 35) 0⟩,
    ⟨(some 40), 640, none, .ex (.t 35) 1⟩,
    ⟨(some 9), 144, none, .mv (.t 39)⟩,
    ⟨(some 10), 160, none, .mv (.t 40)⟩])
  (.seq (.reg [⟨(some 41), 656, none, .mv (.t 10)⟩])
  (.cond (.t 41) (.seq (.reg [⟨(some 42), 672, none, .mv (.t 9)⟩,
    ⟨(some 43), 688, none, .mv (.t 1)⟩,
    ⟨(some 44), 704, none, .bi false .add (.t 42) (.t 43)⟩,
    ⟨(some 45), 720, none, .bi false .sub (.t 44) (.c (.int .i64 1))⟩,
    ⟨(some 46), 736, none, .mv (.t 1)⟩,
    ⟨(some 47), 752, none, .bi false .quo (.t 45) (.t 46)⟩,
    ⟨(some 48), 768, none, .mv (.t 1)⟩,
    ⟨(some 49), 784, none, .bi false .mul (.t 47) (.t 48)⟩,
    ⟨(some 8), 128, none, .mv (.t 49)⟩])
  (.exit 1)) .skip)))
  (.seq (.seq (.reg [⟨(some 50), 800, none, .mv (.t 7)⟩,
    ⟨(some 51), 816, none, .len (.t 50)⟩,
    ⟨(some 52), 832, none, .bi false .eql (.t 51) (.c (.int .i64 200))⟩])
  (.cond (.t 52) (.seq (.reg [⟨(some 4), 64, none, .mv (.c (.nil 1))⟩,
    ⟨(some 5), 80, none, .mv (.c (.int .i64 10))⟩])
  .ret) .skip))
  (.seq (.reg [⟨(some 53), 848, none, .mv (.t 7)⟩,
    ⟨(some 54), 864, none, .mv (.t 8)⟩,
    ⟨(some 55), 880, none, .bs 3 1 [(.t 54)]⟩,
    ⟨(some 56), 896, none, .app 3 1 8 (.t 53) (.t 55)⟩,
    ⟨(some 7), 112, none, .mv (.t 56)⟩])
  (.reg [⟨(some 57), 912, none, .mv (.t 8)⟩,
    ⟨(some 58), 928, none, .mv (.t 1)⟩,
    ⟨(some 59), 944, none, .bi false .add (.t 57) (.t 58)⟩,
    ⟨(some 8), 128, none, .mv (.t 59)⟩]))))))
def c78 : C := (.seq (.reg [⟨(some 2), 32, none, .bx 6 (.t 0)⟩,
    ⟨(some 4), 64, none, .mv (.c (.nil 1))⟩,
    ⟨(some 5), 80, none, .mv (.c (.int .i64 0))⟩])
  (.seq (.seq (.reg [⟨(some 11), 176, none, .ld 6 true (.t 2)⟩,
    ⟨(some 12), 192, none, .call (.c (.fn (.func 91) [] [])) [(.t 11)]⟩,
    ⟨(some 6), 96, none, .mv (.t 12)⟩])
  (.seq (.reg [⟨(some 13), 208, none, .mv (.t 6)⟩,
    ⟨(some 14), 224, none, .bi false .neq (.t 13) (.c (.int .i64 0))⟩])
  (.cond (.t 14) (.seq (.reg [⟨(some 15), 240, none, .mv (.t 6)⟩,
    ⟨(some 4), 64, none, .mv (.c (.nil 1))⟩,
    ⟨(some 5), 80, none, .mv (.t 15)⟩])
  .ret) .skip)))
  (.seq (.seq (.reg [⟨(some 16), 256, none, .mv (.t 1)⟩,
    ⟨(some 17), 272, none, .bi false .lss (.t 16) (.c (.int .i64 1))⟩,
    ⟨(some 18), 288, none, .mv (.t 17)⟩,
    ⟨(some 19), 304, (some (18, false)), .mv (.t 1)⟩,
    ⟨(some 20), 320, (some (18, false)), .bi false .gtr (.t 19) (.c (.int .i64 1073741824))⟩,
    ⟨(some 21), 336, none, .pick (.t 18) (.c (.bool true)) (.t 20)⟩])
  (.cond (.t 21) (.seq (.reg [⟨(some 4), 64, none, .mv (.c (.nil 1))⟩,
    ⟨(some 5), 80, none, .mv (.c (.int .i64 1))⟩])
  .ret) .skip))
  (.seq (.reg [⟨(some 7), 112, none, .mv (.c (.nil 1))⟩])
  (.seq (.seq (.reg [⟨(some 22), 352, none, .fa 1 (.t 2)⟩,
    ⟨(some 23), 368, none, .ld 1 false (.t 22)⟩,
    ⟨(some 24), 384, none, .mv (.t 1)⟩,
    ⟨(some 25), 400, none, .bi false .add (.t 23) (.t 24)⟩,
    ⟨(some 26), 416, none, .bi false .sub (.t 25) (.c (.int .i64 1))⟩,
    ⟨(some 27), 432, none, .mv (.t 1)⟩,
    ⟨(some 28), 448, none, .bi false .quo (.t 26) (.t 27)⟩,
    ⟨(some 29), 464, none, .mv (.t 1)⟩,
    ⟨(some 30), 480, none, .bi false .mul (.t 28) (.t 29)⟩,
    ⟨(some 8), 128, none, .mv (.t 30)⟩])
  (.block 0 (.loop c78L1)))
  (.seq (.reg [⟨(some 60), 960, none, .mv (.t 7)⟩,
    ⟨(some 4), 64, none, .mv (.t 60)⟩,
    ⟨(some 5), 80, none, .mv (.c (.int .i64 0))⟩])
  .ret))))))
theorem fits78 : fits Tryd.prog false Tryd.f78 2 61 [(4, none), (5, none)] = some c78.er := by kernel_rfl
structure Bnd where
  lo : Int
  hi : Int
  deriving Inhabited, DecidableEq
def eBnd (b : Bnd) : List PV := [.int .i64 b.lo, .int .i64 b.hi]
structure Ut where
  tb : List Pt
  least : Int
  most : Int
  rough : List Bnd
  up : Int
  down : Int
  deriving Inhabited
def eUt (τ : Nat) (u : Ut) : List PV := [.sl τ 2 u.tb.length (fl ePt u.tb), .int .i64 u.least, .int .i64 u.most, .sl τ 2 u.rough.length (fl eBnd u.rough), .int .i64 u.up, .int .i64 u.down]
def errB (l : List Bnd) (i : Nat) : Int := if ¬ (0 ≤ (l.getD i default).lo ∧ (l.getD i default).lo ≤ 1073741824) ∨ ¬ (0 ≤ (l.getD i default).hi ∧ (l.getD i default).hi ≤ 1073741824) then 1 else if (l.getD i default).hi ≤ (l.getD i default).lo then 4 else 0
def badU (u : Ut) : Prop := 1073741824 < (u.tb.getD (u.tb.length - 1) default).y ∨ u.least < 1 ∨ u.most < u.least ∨ 1073741824 < u.most
instance (u : Ut) : Decidable (badU u) := by unfold badU; infer_instance
def checkU (u : Ut) : Int := if checkC u.tb ≠ 0 then checkC u.tb else if badU u then 1 else if 10 < u.rough.length then 10 else if scan (errB u.rough) 0 u.rough.length ≠ 0 then scan (errB u.rough) 0 u.rough.length else
  if ¬ (0 ≤ u.up ∧ u.up ≤ 1000) ∨ ¬ (0 ≤ u.down ∧ u.down ≤ 1000) then 1 else 0
def insL (q : Int) : List Bnd → Option Int
  | [] => none
  | z :: r => if z.lo < q ∧ q < z.hi then some z.hi else insL q r
theorem insL_drop {l : List Bnd} {i : Nat} (q : Int) (h : i < l.length) : insL q (l.drop i) = if (l.getD i default).lo < q ∧ q < (l.getD i default).hi then some (l.getD i default).hi else insL q (l.drop (i + 1)) := by
  rw [List.drop_eq_getElem_cons h]
  have : l.getD i default = l[i] := by simp [List.getD, h]
  rw [this]; rfl
theorem insL_gt : ∀ {l : List Bnd} {q e : Int}, insL q l = some e → q < e ∧ ∃ z ∈ l, z.hi = e
  | [], q, e, h => by cases h
  | z :: r, q, e, h => by
    unfold insL at h
    split at h
    · injection h with h; subst h
      rename_i hh
      exact ⟨hh.2, z, by simp, rfl⟩
    · obtain ⟨h1, z', hz, he⟩ := insL_gt h
      exact ⟨h1, z', by simp [hz], he⟩
set_option maxRecDepth 100000 in
set_option maxHeartbeats 8000000 in
theorem call92 (τ : Nat) (u : Ut) (q : Int) (hl : u.rough.length ≤ 4611686018427387904) : PureCall Tryd.prog 92 [.agg (eUt τ u), .int .i64 q] [] ⟨.tup [.int .i64 ((insL q u.rough).getD 0), .bool (insL q u.rough).isSome], [], []⟩ := by
  refine pure_call mix Tryd.func92 fits92 rfl ?_
  conv => whnf
  refine ⟨trivial, ?_⟩
  refine LSem.loop (n := 28) mix (α := Nat) (fun i => i ≤ u.rough.length ∧ insL q (u.rough.drop i) = insL q u.rough)
    (fun i => [(1, .int .i64 q), (9, .sl τ 2 u.rough.length (fl eBnd u.rough)), (10, .int .i64 u.rough.length), (11, .int .i64 i)])
    (fun _ => []) (fun i => u.rough.length - i) 0 ?_ ?_ ?_
  · exact ⟨Nat.zero_le _, rfl⟩
  · refine ⟨rfl, rfl, ?_, ?_⟩
    all_goals repeat' (first | exact True.intro | refine leF_cons rfl ?_ ?_ | refine leS_cons rfl ?_ ?_ | (show PLe _ _ _ _; conv => whnf) | (show SLe _ _ _ _; conv => whnf) | (show PLeL _ _ _ _; conv => whnf) | apply And.intro | rfl | exact Nat.le_refl _ | exact fun _ _ => rfl | exact rowEq0 _ _)
  · intro i hi
    obtain ⟨hi, hp⟩ := hi
    have hj : ((i : Int)).toNat = i := by omega
    conv => whnf
    refine ⟨trivial, fun hc => ?_, fun hc => ?_⟩
    · replace hc := of_decide_eq_true hc
      have hlt : i < u.rough.length := by
        have h : (i : Int) < u.rough.length := hc
        omega
      rw [insL_drop q hlt] at hp
      conv => whnf
      rw [hj]
      generalize u.rough.getD i default = z at hp ⊢
      refine ⟨?_, fun h1 => ?_, fun h1 => ?_⟩
      · (try conv => whnf)
        (repeat' (first | exact True.intro | exact fun _ h => h | refine inR64_of ?_ ?_ | apply And.intro | refine maxLen_ge ?_)) <;> (first | omega | decide | (dsimp only; omega) | (dsimp only [List.length_cons, List.length_nil]; omega) | (intro hg; rw [hg]; rfl) | (intro hg hh; rw [hg, hh]; rfl) | (intro hg; simp [-List.getD_eq_getElem?_getD, -Int.default_eq_zero] at hg; first | omega | (refine inR64_of ?_ ?_ <;> omega) | (constructor <;> omega)) | (simp [-List.getD_eq_getElem?_getD, -Int.default_eq_zero]; done))
      · have h1 : (bif decide (z.lo < q) then decide (q < z.hi) else false) = true := h1
        simp only [bif_t, bif_f, decide_eq_true_eq, decide_eq_false_iff_not, Bool.not_eq_true', Bool.not_eq_false', Bool.and_eq_true, Bool.or_eq_true, Bool.and_eq_false_iff, Bool.or_eq_false_iff, beq_iff_eq, bne_iff_ne, beq_eq_false_iff_ne, bne_eq_false_iff_eq, reduceCtorEq, false_and, and_false, true_and, and_true, or_false, false_or, or_true, true_or, not_true_eq_false, not_false_eq_true, Int.toNat_zero] at h1
        rw [if_pos (by omega)] at hp
        rw [← hp]
        conv => whnf
        refine ⟨?_, [], ?_⟩
        · (try conv => whnf)
          (repeat' (first | exact True.intro | exact fun _ h => h | refine inR64_of ?_ ?_ | apply And.intro | refine maxLen_ge ?_)) <;> (first | omega | (dsimp only; omega))
        conv => whnf
        refine ⟨rfl, ?_, trivial, trivial⟩
        all_goals repeat' (first | exact True.intro | refine leF_cons rfl ?_ ?_ | refine leS_cons rfl ?_ ?_ | (show PLe _ _ _ _; conv => whnf) | (show SLe _ _ _ _; conv => whnf) | (show PLeL _ _ _ _; conv => whnf) | apply And.intro | rfl | exact Nat.le_refl _ | exact fun _ _ => rfl | exact rowEq0 _ _)
      · have h1 : (bif decide (z.lo < q) then decide (q < z.hi) else false) = false := h1
        simp only [bif_t, bif_f, decide_eq_true_eq, decide_eq_false_iff_not, Bool.not_eq_true', Bool.not_eq_false', Bool.and_eq_true, Bool.or_eq_true, Bool.and_eq_false_iff, Bool.or_eq_false_iff, beq_iff_eq, bne_iff_ne, beq_eq_false_iff_ne, bne_eq_false_iff_eq, reduceCtorEq, false_and, and_false, true_and, and_true, or_false, false_or, or_true, true_or, not_true_eq_false, not_false_eq_true, Int.toNat_zero] at h1
        rw [if_neg (by omega)] at hp
        conv => whnf
        refine ⟨?_, i + 1, ⟨hlt, hp⟩, by omega, rfl, rfl, ?_, ?_⟩
        · (try conv => whnf)
          (repeat' (first | exact True.intro | exact fun _ h => h | refine inR64_of ?_ ?_ | apply And.intro | refine maxLen_ge ?_)) <;> (first | omega | (dsimp only; omega))
        all_goals repeat' (first | exact True.intro | refine leF_cons rfl ?_ ?_ | refine leS_cons rfl ?_ ?_ | (show PLe _ _ _ _; conv => whnf) | (show SLe _ _ _ _; conv => whnf) | (show PLeL _ _ _ _; conv => whnf) | apply And.intro | rfl | exact Nat.le_refl _ | exact fun _ _ => rfl | exact rowEq0 _ _)
        all_goals first | omega | skip
    · replace hc := of_decide_eq_false hc
      have hk : i = u.rough.length := by
        have h : ¬ (i : Int) < u.rough.length := hc
        omega
      subst hk
      rw [List.drop_length] at hp
      rw [← hp]
      conv => whnf
      refine ⟨?_, [], ?_⟩
      · (try conv => whnf)
        (repeat' (first | exact True.intro | exact fun _ h => h | refine inR64_of ?_ ?_ | apply And.intro | refine maxLen_ge ?_)) <;> (first | omega | (dsimp only; omega))
      conv => whnf
      refine ⟨rfl, ?_, trivial, trivial⟩
      all_goals repeat' (first | exact True.intro | refine leF_cons rfl ?_ ?_ | refine leS_cons rfl ?_ ?_ | (show PLe _ _ _ _; conv => whnf) | (show SLe _ _ _ _; conv => whnf) | (show PLeL _ _ _ _; conv => whnf) | apply And.intro | rfl | exact Nat.le_refl _ | exact fun _ _ => rfl | exact rowEq0 _ _)
set_option maxRecDepth 100000 in
set_option maxHeartbeats 8000000 in
theorem call91 (τ : Nat) (u : Ut) (hl : u.rough.length ≤ 4611686018427387904) : PureCall Tryd.prog 91 [.agg (eUt τ u)] [] ⟨.int .i64 (checkU u), [], []⟩ := by
  refine pure_call mix Tryd.func91 fits91 rfl ?_
  conv => whnf
  refine ⟨_, fun _ => call81 _ u.tb, ?_⟩
  by_cases hk : checkC u.tb = 0
  case neg =>
    rw [show checkU u = checkC u.tb by unfold checkU; rw [if_pos hk]]
    generalize checkC u.tb = E at hk ⊢
    conv => whnf
    refine ⟨?_, fun _ => ?_, fun h => ?_⟩
    · (try conv => whnf)
      (repeat' (first | exact True.intro | exact fun _ h => h | refine inR64_of ?_ ?_ | apply And.intro | refine maxLen_ge ?_)) <;> (first | omega | (dsimp only; omega))
    · conv => whnf
      refine ⟨?_, [], ?_⟩
      · (try conv => whnf)
        (repeat' (first | exact True.intro | exact fun _ h => h | refine inR64_of ?_ ?_ | apply And.intro | refine maxLen_ge ?_)) <;> (first | omega | (dsimp only; omega))
      conv => whnf
      refine ⟨rfl, ?_, trivial, trivial⟩
      all_goals repeat' (first | exact True.intro | refine leF_cons rfl ?_ ?_ | refine leS_cons rfl ?_ ?_ | (show PLe _ _ _ _; conv => whnf) | (show SLe _ _ _ _; conv => whnf) | (show PLeL _ _ _ _; conv => whnf) | apply And.intro | rfl | exact Nat.le_refl _ | exact fun _ _ => rfl | exact rowEq0 _ _)
    · exact absurd (show E = 0 by simpa using h) hk
  have hg := (check_good u.tb).1 hk
  have hlen := hg.le
  have hne := hg.ne
  have hch : checkU u = if badU u then 1 else if 10 < u.rough.length then 10 else if scan (errB u.rough) 0 u.rough.length ≠ 0 then scan (errB u.rough) 0 u.rough.length else
    if ¬ (0 ≤ u.up ∧ u.up ≤ 1000) ∨ ¬ (0 ≤ u.down ∧ u.down ≤ 1000) then 1 else 0 := by unfold checkU; rw [if_neg (by rw [hk]; decide)]
  have hjl : ((u.tb.length : Int) - 1).toNat = u.tb.length - 1 := by omega
  rw [hk]
  conv => whnf
  refine ⟨?_, fun h => (by cases h), fun _ => ?_⟩
  · (try conv => whnf)
    (repeat' (first | exact True.intro | exact fun _ h => h | refine inR64_of ?_ ?_ | apply And.intro | refine maxLen_ge ?_)) <;> (first | omega | (dsimp only; omega))
  conv => whnf
  rw [hjl]
  refine ⟨?_, fun hc => ?_, fun hc => ?_⟩
  · (try conv => whnf)
    (repeat' (first | exact True.intro | exact fun _ h => h | refine inR64_of ?_ ?_ | apply And.intro | refine maxLen_ge ?_)) <;> (first | omega | decide | (dsimp only; omega) | (dsimp only [List.length_cons, List.length_nil]; omega) | (intro hg; rw [hg]; rfl) | (intro hg hh; rw [hg, hh]; rfl) | (intro hg; simp [-List.getD_eq_getElem?_getD, -Int.default_eq_zero] at hg; first | omega | (refine inR64_of ?_ ?_ <;> omega) | (constructor <;> omega)) | (simp [-List.getD_eq_getElem?_getD, -Int.default_eq_zero]; done))
  · have hc : (bif bif bif decide (1073741824 < (u.tb.getD (u.tb.length - 1) default).y) then true else decide (u.least < 1) then true else decide (u.most < u.least) then true else decide (1073741824 < u.most)) = true := hc
    simp only [bif_t, bif_f, decide_eq_true_eq, decide_eq_false_iff_not, Bool.not_eq_true', Bool.not_eq_false', Bool.and_eq_true, Bool.or_eq_true, Bool.and_eq_false_iff, Bool.or_eq_false_iff, beq_iff_eq, bne_iff_ne, beq_eq_false_iff_ne, bne_eq_false_iff_eq, reduceCtorEq, false_and, and_false, true_and, and_true, or_false, false_or, or_true, true_or, not_true_eq_false, not_false_eq_true, Int.toNat_zero] at hc
    rw [show checkU u = 1 by rw [hch, if_pos (by unfold badU; omega)]]
    conv => whnf
    refine ⟨?_, [], ?_⟩
    · (try conv => whnf)
      (repeat' (first | exact True.intro | exact fun _ h => h | refine inR64_of ?_ ?_ | apply And.intro | refine maxLen_ge ?_)) <;> (first | omega | (dsimp only; omega))
    conv => whnf
    refine ⟨rfl, ?_, trivial, trivial⟩
    all_goals repeat' (first | exact True.intro | refine leF_cons rfl ?_ ?_ | refine leS_cons rfl ?_ ?_ | (show PLe _ _ _ _; conv => whnf) | (show SLe _ _ _ _; conv => whnf) | (show PLeL _ _ _ _; conv => whnf) | apply And.intro | rfl | exact Nat.le_refl _ | exact fun _ _ => rfl | exact rowEq0 _ _)
  have hc : (bif bif bif decide (1073741824 < (u.tb.getD (u.tb.length - 1) default).y) then true else decide (u.least < 1) then true else decide (u.most < u.least) then true else decide (1073741824 < u.most)) = false := hc
  simp only [bif_t, bif_f, decide_eq_true_eq, decide_eq_false_iff_not, Bool.not_eq_true', Bool.not_eq_false', Bool.and_eq_true, Bool.or_eq_true, Bool.and_eq_false_iff, Bool.or_eq_false_iff, beq_iff_eq, bne_iff_ne, beq_eq_false_iff_ne, bne_eq_false_iff_eq, reduceCtorEq, false_and, and_false, true_and, and_true, or_false, false_or, or_true, true_or, not_true_eq_false, not_false_eq_true, Int.toNat_zero] at hc
  rw [if_neg (by unfold badU; omega)] at hch
  clear hc
  conv => whnf
  refine ⟨trivial, fun hc => ?_, fun hc => ?_⟩
  · have h : (10 : Int) < u.rough.length := of_decide_eq_true hc
    rw [show checkU u = 10 by rw [hch, if_pos (by omega)]]
    conv => whnf
    refine ⟨?_, [], ?_⟩
    · (try conv => whnf)
      (repeat' (first | exact True.intro | exact fun _ h => h | refine inR64_of ?_ ?_ | apply And.intro | refine maxLen_ge ?_)) <;> (first | omega | (dsimp only; omega))
    conv => whnf
    refine ⟨rfl, ?_, trivial, trivial⟩
    all_goals repeat' (first | exact True.intro | refine leF_cons rfl ?_ ?_ | refine leS_cons rfl ?_ ?_ | (show PLe _ _ _ _; conv => whnf) | (show SLe _ _ _ _; conv => whnf) | (show PLeL _ _ _ _; conv => whnf) | apply And.intro | rfl | exact Nat.le_refl _ | exact fun _ _ => rfl | exact rowEq0 _ _)
  have h : ¬ (10 : Int) < u.rough.length := of_decide_eq_false hc
  rw [if_neg (by omega)] at hch
  clear hc
  conv => whnf
  refine ⟨trivial, ?_⟩
  refine LSem.loop (n := 76) mix (α := Nat) (fun i => i ≤ u.rough.length ∧ scan (errB u.rough) i (u.rough.length - i) = scan (errB u.rough) 0 u.rough.length)
    (fun i => [(1, .pt 16 0 0), (44, .sl τ 2 u.rough.length (fl eBnd u.rough)), (45, .int .i64 u.rough.length), (46, .int .i64 i)])
    (fun _ => [(16, .box (eUt τ u))]) (fun i => u.rough.length - i) 0 ?_ ?_ ?_
  · exact ⟨Nat.zero_le _, rfl⟩
  · refine ⟨rfl, rfl, ?_, ?_⟩
    all_goals repeat' (first | exact True.intro | refine leF_cons rfl ?_ ?_ | refine leS_cons rfl ?_ ?_ | (show PLe _ _ _ _; conv => whnf) | (show SLe _ _ _ _; conv => whnf) | (show PLeL _ _ _ _; conv => whnf) | apply And.intro | rfl | exact Nat.le_refl _ | exact fun _ _ => rfl | exact rowEq0 _ _)
  · intro i hi
    obtain ⟨hi, hs⟩ := hi
    have hj : ((i : Int)).toNat = i := by omega
    conv => whnf
    refine ⟨trivial, fun hc => ?_, fun hc => ?_⟩
    · replace hc := of_decide_eq_true hc
      have hlt : i < u.rough.length := by
        have h : (i : Int) < u.rough.length := hc
        omega
      have herr : errB u.rough i ≠ 0 → checkU u = errB u.rough i := fun h => by
        rw [hch, ← hs, scan_hit (by omega) h, if_pos h]
      have hnext : errB u.rough i = 0 → scan (errB u.rough) (i + 1) (u.rough.length - (i + 1)) = scan (errB u.rough) 0 u.rough.length := fun h => by rw [← hs, scan_step (by omega) h]; congr 1
      have heq : errB u.rough i = if ¬ (0 ≤ (u.rough.getD i default).lo ∧ (u.rough.getD i default).lo ≤ 1073741824) ∨ ¬ (0 ≤ (u.rough.getD i default).hi ∧ (u.rough.getD i default).hi ≤ 1073741824) then 1 else if (u.rough.getD i default).hi ≤ (u.rough.getD i default).lo then 4 else 0 := rfl
      conv => whnf
      rw [hj]
      generalize u.rough.getD i default = z at heq ⊢
      refine ⟨_, fun _ => call80 z.lo 1073741824, ?_⟩
      conv => whnf
      refine ⟨_, fun _ => call80 z.hi 1073741824, ?_⟩
      conv => whnf
      refine ⟨?_, fun h1 => ?_, fun h1 => ?_⟩
      · (try conv => whnf)
        (repeat' (first | exact True.intro | exact fun _ h => h | refine inR64_of ?_ ?_ | apply And.intro | refine maxLen_ge ?_)) <;> (first | omega | decide | (dsimp only; omega) | (dsimp only [List.length_cons, List.length_nil]; omega) | (intro hg; rw [hg]; rfl) | (intro hg hh; rw [hg, hh]; rfl) | (intro hg; simp [-List.getD_eq_getElem?_getD, -Int.default_eq_zero] at hg; first | omega | (refine inR64_of ?_ ?_ <;> omega) | (constructor <;> omega)) | (simp [-List.getD_eq_getElem?_getD, -Int.default_eq_zero]; done))
      · have h1 : (bif !decide (0 ≤ z.lo ∧ z.lo ≤ 1073741824) then true else !decide (0 ≤ z.hi ∧ z.hi ≤ 1073741824)) = true := h1
        simp only [bif_t, bif_f, decide_eq_true_eq, decide_eq_false_iff_not, Bool.not_eq_true', Bool.not_eq_false', Bool.and_eq_true, Bool.or_eq_true, Bool.and_eq_false_iff, Bool.or_eq_false_iff, beq_iff_eq, bne_iff_ne, beq_eq_false_iff_ne, bne_eq_false_iff_eq, reduceCtorEq, false_and, and_false, true_and, and_true, or_false, false_or, or_true, true_or, not_true_eq_false, not_false_eq_true, Int.toNat_zero] at h1
        rw [if_pos (by omega)] at heq
        rw [herr (by rw [heq]; decide), heq]
        conv => whnf
        refine ⟨?_, [], ?_⟩
        · (try conv => whnf)
          (repeat' (first | exact True.intro | exact fun _ h => h | refine inR64_of ?_ ?_ | apply And.intro | refine maxLen_ge ?_)) <;> (first | omega | (dsimp only; omega))
        conv => whnf
        refine ⟨rfl, ?_, trivial, trivial⟩
        all_goals repeat' (first | exact True.intro | refine leF_cons rfl ?_ ?_ | refine leS_cons rfl ?_ ?_ | (show PLe _ _ _ _; conv => whnf) | (show SLe _ _ _ _; conv => whnf) | (show PLeL _ _ _ _; conv => whnf) | apply And.intro | rfl | exact Nat.le_refl _ | exact fun _ _ => rfl | exact rowEq0 _ _)
      · have h1 : (bif !decide (0 ≤ z.lo ∧ z.lo ≤ 1073741824) then true else !decide (0 ≤ z.hi ∧ z.hi ≤ 1073741824)) = false := h1
        simp only [bif_t, bif_f, decide_eq_true_eq, decide_eq_false_iff_not, Bool.not_eq_true', Bool.not_eq_false', Bool.and_eq_true, Bool.or_eq_true, Bool.and_eq_false_iff, Bool.or_eq_false_iff, beq_iff_eq, bne_iff_ne, beq_eq_false_iff_ne, bne_eq_false_iff_eq, reduceCtorEq, false_and, and_false, true_and, and_true, or_false, false_or, or_true, true_or, not_true_eq_false, not_false_eq_true, Int.toNat_zero] at h1
        rw [if_neg (by omega)] at heq
        conv => whnf
        refine ⟨?_, fun h2 => ?_, fun h2 => ?_⟩
        · (try conv => whnf)
          (repeat' (first | exact True.intro | exact fun _ h => h | refine inR64_of ?_ ?_ | apply And.intro | refine maxLen_ge ?_)) <;> (first | omega | (dsimp only; omega))
        · have h2 : z.hi ≤ z.lo := of_decide_eq_true h2
          rw [if_pos h2] at heq
          rw [herr (by rw [heq]; decide), heq]
          conv => whnf
          refine ⟨?_, [], ?_⟩
          · (try conv => whnf)
            (repeat' (first | exact True.intro | exact fun _ h => h | refine inR64_of ?_ ?_ | apply And.intro | refine maxLen_ge ?_)) <;> (first | omega | (dsimp only; omega))
          conv => whnf
          refine ⟨rfl, ?_, trivial, trivial⟩
          all_goals repeat' (first | exact True.intro | refine leF_cons rfl ?_ ?_ | refine leS_cons rfl ?_ ?_ | (show PLe _ _ _ _; conv => whnf) | (show SLe _ _ _ _; conv => whnf) | (show PLeL _ _ _ _; conv => whnf) | apply And.intro | rfl | exact Nat.le_refl _ | exact fun _ _ => rfl | exact rowEq0 _ _)
        · have h2 : ¬ z.hi ≤ z.lo := of_decide_eq_false h2
          rw [if_neg h2] at heq
          conv => whnf
          refine ⟨?_, i + 1, ⟨hlt, hnext heq⟩, by omega, rfl, rfl, ?_, ?_⟩
          · (try conv => whnf)
            (repeat' (first | exact True.intro | exact fun _ h => h | refine inR64_of ?_ ?_ | apply And.intro | refine maxLen_ge ?_)) <;> (first | omega | (dsimp only; omega))
          all_goals repeat' (first | exact True.intro | refine leF_cons rfl ?_ ?_ | refine leS_cons rfl ?_ ?_ | (show PLe _ _ _ _; conv => whnf) | (show SLe _ _ _ _; conv => whnf) | (show PLeL _ _ _ _; conv => whnf) | apply And.intro | rfl | exact Nat.le_refl _ | exact fun _ _ => rfl | exact rowEq0 _ _)
          all_goals first | omega | skip
    · replace hc := of_decide_eq_false hc
      have hk : i = u.rough.length := by
        have h : ¬ (i : Int) < u.rough.length := hc
        omega
      subst hk
      rw [Nat.sub_self] at hs
      have hs0 : scan (errB u.rough) 0 u.rough.length = 0 := by rw [← hs]; rfl
      rw [hs0, if_neg (by decide)] at hch
      conv => whnf
      refine ⟨_, fun _ => call80 u.up 1000, ?_⟩
      conv => whnf
      refine ⟨_, fun _ => call80 u.down 1000, ?_⟩
      conv => whnf
      refine ⟨?_, fun h1 => ?_, fun h1 => ?_⟩
      · (try conv => whnf)
        (repeat' (first | exact True.intro | exact fun _ h => h | refine inR64_of ?_ ?_ | apply And.intro | refine maxLen_ge ?_)) <;> (first | omega | decide | (dsimp only; omega) | (dsimp only [List.length_cons, List.length_nil]; omega) | (intro hg; rw [hg]; rfl) | (intro hg hh; rw [hg, hh]; rfl) | (intro hg; simp [-List.getD_eq_getElem?_getD, -Int.default_eq_zero] at hg; first | omega | (refine inR64_of ?_ ?_ <;> omega) | (constructor <;> omega)) | (simp [-List.getD_eq_getElem?_getD, -Int.default_eq_zero]; done))
      · have h1 : (bif !decide (0 ≤ u.up ∧ u.up ≤ 1000) then true else !decide (0 ≤ u.down ∧ u.down ≤ 1000)) = true := h1
        simp only [bif_t, bif_f, decide_eq_true_eq, decide_eq_false_iff_not, Bool.not_eq_true', Bool.not_eq_false', Bool.and_eq_true, Bool.or_eq_true, Bool.and_eq_false_iff, Bool.or_eq_false_iff, beq_iff_eq, bne_iff_ne, beq_eq_false_iff_ne, bne_eq_false_iff_eq, reduceCtorEq, false_and, and_false, true_and, and_true, or_false, false_or, or_true, true_or, not_true_eq_false, not_false_eq_true, Int.toNat_zero] at h1
        rw [show checkU u = 1 by rw [hch, if_pos (by omega)]]
        conv => whnf
        refine ⟨?_, [], ?_⟩
        · (try conv => whnf)
          (repeat' (first | exact True.intro | exact fun _ h => h | refine inR64_of ?_ ?_ | apply And.intro | refine maxLen_ge ?_)) <;> (first | omega | (dsimp only; omega))
        conv => whnf
        refine ⟨rfl, ?_, trivial, trivial⟩
        all_goals repeat' (first | exact True.intro | refine leF_cons rfl ?_ ?_ | refine leS_cons rfl ?_ ?_ | (show PLe _ _ _ _; conv => whnf) | (show SLe _ _ _ _; conv => whnf) | (show PLeL _ _ _ _; conv => whnf) | apply And.intro | rfl | exact Nat.le_refl _ | exact fun _ _ => rfl | exact rowEq0 _ _)
      · have h1 : (bif !decide (0 ≤ u.up ∧ u.up ≤ 1000) then true else !decide (0 ≤ u.down ∧ u.down ≤ 1000)) = false := h1
        simp only [bif_t, bif_f, decide_eq_true_eq, decide_eq_false_iff_not, Bool.not_eq_true', Bool.not_eq_false', Bool.and_eq_true, Bool.or_eq_true, Bool.and_eq_false_iff, Bool.or_eq_false_iff, beq_iff_eq, bne_iff_ne, beq_eq_false_iff_ne, bne_eq_false_iff_eq, reduceCtorEq, false_and, and_false, true_and, and_true, or_false, false_or, or_true, true_or, not_true_eq_false, not_false_eq_true, Int.toNat_zero] at h1
        rw [show checkU u = 0 by rw [hch, if_neg (by omega)]]
        conv => whnf
        refine ⟨?_, [], ?_⟩
        · (try conv => whnf)
          (repeat' (first | exact True.intro | exact fun _ h => h | refine inR64_of ?_ ?_ | apply And.intro | refine maxLen_ge ?_)) <;> (first | omega | (dsimp only; omega))
        conv => whnf
        refine ⟨rfl, ?_, trivial, trivial⟩
        all_goals repeat' (first | exact True.intro | refine leF_cons rfl ?_ ?_ | refine leS_cons rfl ?_ ?_ | (show PLe _ _ _ _; conv => whnf) | (show SLe _ _ _ _; conv => whnf) | (show PLeL _ _ _ _; conv => whnf) | apply And.intro | rfl | exact Nat.le_refl _ | exact fun _ _ => rfl | exact rowEq0 _ _)
theorem checkU_ok {u : Ut} (h : checkU u = 0) : 1 ≤ u.least ∧ u.least ≤ u.most ∧ u.most ≤ 1073741824 ∧ u.rough.length ≤ 10 ∧ ∀ z ∈ u.rough, 0 ≤ z.hi ∧ z.hi ≤ 1073741824 := by
  unfold checkU at h
  split at h
  · rename_i hh; exact absurd h hh
  split at h
  · cases h
  rename_i hb
  split at h
  · cases h
  split at h
  · rename_i hh; exact absurd h hh
  rename_i hl hs
  have hs0 : scan (errB u.rough) 0 u.rough.length = 0 := Classical.not_not.1 hs
  unfold badU at hb
  refine ⟨by omega, by omega, by omega, by omega, fun z hz => ?_⟩
  obtain ⟨i, hi, rfl⟩ := List.mem_iff_getElem.1 hz
  have := scan_zero hs0 i (Nat.zero_le _) (by omega)
  unfold errB at this
  simp only [List.getD, List.getElem?_eq_getElem hi, Option.getD_some] at this
  split at this
  · cases this
  · omega
def upG (g x : Int) : Int := (x + g - 1) / g * g
def flowL (u : Ut) (g : Int) : Nat → Int → List Int → List Int × Int
  | 0, _, out => (out, 0)
  | n + 1, q, out => if q ≤ u.most then match insL q u.rough with
      | some e => flowL u g n (upG g e) out
      | none => if out.length = 200 then ([], 10) else flowL u g n (q + g) (out ++ [q])
    else (out, 0)
def flowsU (u : Ut) (g : Int) : List Int × Int := if checkU u ≠ 0 then ([], checkU u) else if g < 1 ∨ 1073741824 < g then ([], 1) else flowL u g (u.most + 1).toNat (upG g u.least) []
theorem upG_rng {g x : Int} (hg : 1 ≤ g) (hx : 0 ≤ x) : x ≤ upG g x ∧ upG g x ≤ x + g - 1 ∧ 0 ≤ (x + g - 1) / g ∧ (x + g - 1) / g ≤ x + g - 1 := by
  unfold upG
  have e := Int.mul_ediv_add_emod (x + g - 1) g
  have e1 := Int.emod_nonneg (x + g - 1) (b := g) (by omega)
  have e2 := Int.emod_lt_of_pos (x + g - 1) (b := g) (by omega)
  have h3 : 0 ≤ (x + g - 1) / g := Int.ediv_nonneg (by omega) (by omega)
  have h4 : (x + g - 1) / g ≤ x + g - 1 := Int.ediv_le_self _ (by omega)
  rw [Int.mul_comm] at e
  generalize (x + g - 1) / g * g = y at e ⊢
  omega
theorem flowL_len (u : Ut) (g : Int) : ∀ (n : Nat) (q : Int) (out : List Int), out.length ≤ 200 → (flowL u g n q out).1.length ≤ 200
  | 0, q, out, h => h
  | n + 1, q, out, h => by
    unfold flowL
    split
    · split
      · exact flowL_len u g n _ out h
      · split
        · simp
        · exact flowL_len u g n _ _ (by rw [List.length_append]; simp; omega)
    · exact h
theorem flowsU_len (u : Ut) (g : Int) : (flowsU u g).1.length ≤ 200 := by
  unfold flowsU
  split
  · simp
  split
  · simp
  · exact flowL_len _ _ _ _ _ (by simp)
set_option maxRecDepth 100000 in
set_option maxHeartbeats 8000000 in
theorem call78 (τ : Nat) (u : Ut) (g : Int) (hl : u.rough.length ≤ 4611686018427387904) : PureCall Tryd.prog 78 [.agg (eUt τ u), .int .i64 g] [] ⟨.tup [.sl 0 1 (flowsU u g).1.length (fl eInt (flowsU u g).1), .int .i64 (flowsU u g).2], [], []⟩ := by
  refine pure_call mix Tryd.func78 fits78 rfl ?_
  conv => whnf
  refine ⟨_, fun _ => call91 _ u hl, ?_⟩
  by_cases hk : checkU u = 0
  case neg =>
    rw [show flowsU u g = ([], checkU u) by unfold flowsU; rw [if_pos hk]]
    generalize checkU u = E at hk ⊢
    conv => whnf
    refine ⟨?_, fun _ => ?_, fun h => ?_⟩
    · (try conv => whnf)
      (repeat' (first | exact True.intro | exact fun _ h => h | refine inR64_of ?_ ?_ | apply And.intro | refine maxLen_ge ?_)) <;> (first | omega | (dsimp only; omega))
    · conv => whnf
      refine ⟨?_, [], ?_⟩
      · (try conv => whnf)
        (repeat' (first | exact True.intro | exact fun _ h => h | refine inR64_of ?_ ?_ | apply And.intro | refine maxLen_ge ?_)) <;> (first | omega | (dsimp only; omega))
      conv => whnf
      refine ⟨rfl, ?_, trivial, trivial⟩
      all_goals repeat' (first | exact True.intro | refine leF_cons rfl ?_ ?_ | refine leS_cons rfl ?_ ?_ | (show PLe _ _ _ _; conv => whnf) | (show SLe _ _ _ _; conv => whnf) | (show PLeL _ _ _ _; conv => whnf) | apply And.intro | rfl | exact Nat.le_refl _ | exact fun _ _ => rfl | exact rowEq0 _ _)
    · exact absurd (show E = 0 by simpa using h) hk
  obtain ⟨u1, u2, u3, u4, u5⟩ := checkU_ok hk
  rw [hk]
  conv => whnf
  refine ⟨?_, fun h => (by cases h), fun _ => ?_⟩
  · (try conv => whnf)
    (repeat' (first | exact True.intro | exact fun _ h => h | refine inR64_of ?_ ?_ | apply And.intro | refine maxLen_ge ?_)) <;> (first | omega | (dsimp only; omega))
  conv => whnf
  refine ⟨?_, fun hc => ?_, fun hc => ?_⟩
  · (try conv => whnf)
    (repeat' (first | exact True.intro | exact fun _ h => h | refine inR64_of ?_ ?_ | apply And.intro | refine maxLen_ge ?_)) <;> (first | omega | decide | (dsimp only; omega) | (dsimp only [List.length_cons, List.length_nil]; omega) | (intro hg; rw [hg]; rfl) | (intro hg hh; rw [hg, hh]; rfl) | (intro hg; simp [-List.getD_eq_getElem?_getD, -Int.default_eq_zero] at hg; first | omega | (refine inR64_of ?_ ?_ <;> omega) | (constructor <;> omega)) | (simp [-List.getD_eq_getElem?_getD, -Int.default_eq_zero]; done))
  · have hc : (bif decide (g < 1) then true else decide (1073741824 < g)) = true := hc
    simp only [bif_t, bif_f, decide_eq_true_eq, decide_eq_false_iff_not, Bool.not_eq_true', Bool.not_eq_false', Bool.and_eq_true, Bool.or_eq_true, Bool.and_eq_false_iff, Bool.or_eq_false_iff, beq_iff_eq, bne_iff_ne, beq_eq_false_iff_ne, bne_eq_false_iff_eq, reduceCtorEq, false_and, and_false, true_and, and_true, or_false, false_or, or_true, true_or, not_true_eq_false, not_false_eq_true, Int.toNat_zero] at hc
    rw [show flowsU u g = ([], 1) by unfold flowsU; rw [if_neg (by rw [hk]; decide), if_pos (by omega)]]
    conv => whnf
    refine ⟨?_, [], ?_⟩
    · (try conv => whnf)
      (repeat' (first | exact True.intro | exact fun _ h => h | refine inR64_of ?_ ?_ | apply And.intro | refine maxLen_ge ?_)) <;> (first | omega | (dsimp only; omega))
    conv => whnf
    refine ⟨rfl, ?_, trivial, trivial⟩
    all_goals repeat' (first | exact True.intro | refine leF_cons rfl ?_ ?_ | refine leS_cons rfl ?_ ?_ | (show PLe _ _ _ _; conv => whnf) | (show SLe _ _ _ _; conv => whnf) | (show PLeL _ _ _ _; conv => whnf) | apply And.intro | rfl | exact Nat.le_refl _ | exact fun _ _ => rfl | exact rowEq0 _ _)
  have hc : (bif decide (g < 1) then true else decide (1073741824 < g)) = false := hc
  simp only [bif_t, bif_f, decide_eq_true_eq, decide_eq_false_iff_not, Bool.not_eq_true', Bool.not_eq_false', Bool.and_eq_true, Bool.or_eq_true, Bool.and_eq_false_iff, Bool.or_eq_false_iff, beq_iff_eq, bne_iff_ne, beq_eq_false_iff_ne, bne_eq_false_iff_eq, reduceCtorEq, false_and, and_false, true_and, and_true, or_false, false_or, or_true, true_or, not_true_eq_false, not_false_eq_true, Int.toNat_zero] at hc
  rw [show flowsU u g = flowL u g (u.most + 1).toNat (upG g u.least) [] by unfold flowsU; rw [if_neg (by rw [hk]; decide), if_neg (by omega)]]
  have hq0 := upG_rng (g := g) (x := u.least) (by omega) (by omega)
  have hd0 : Int.tdiv (u.least + g - 1) g * g = upG g u.least := by unfold upG; rw [Int.tdiv_eq_ediv_of_nonneg (by omega)]
  obtain ⟨R0, hR0⟩ : ∃ R0, R0 = flowL u g (u.most + 1).toNat (upG g u.least) [] := ⟨_, rfl⟩
  rw [← hR0]
  have hd1 : Int.tdiv (u.least + g - 1) g = (u.least + g - 1) / g := Int.tdiv_eq_ediv_of_nonneg (by omega)
  have hd2 : (u.least + g - 1) / g * g = upG g u.least := rfl
  conv => whnf
  rw [hd1, hd2]
  refine ⟨?_, ?_⟩
  · (try conv => whnf)
    (repeat' (first | exact True.intro | exact fun _ h => h | refine inR64_of ?_ ?_ | apply And.intro | refine maxLen_ge ?_)) <;> (first | omega | (dsimp only; omega))
  refine LSem.adopt 7 1000000 3 1 1 rfl rfl ?_
  refine LSem.loop (n := 61) mix (α := Nat × Int × List Int) (fun x => flowL u g x.1 x.2.1 x.2.2 = R0 ∧ u.most + 1 - x.2.1 ≤ x.1 ∧ (1 ≤ x.2.1 ∧ x.2.1 ≤ 2147483648) ∧ x.2.2.length ≤ 200)
    (fun x => [(1, .int .i64 g), (2, .pt 32 0 0), (7, .os 1000000), (8, .int .i64 x.2.1)])
    (fun x => [(32, .box (eUt τ u)), (1000000, .row 0 3 1 x.2.2.length (fl eInt x.2.2))]) (fun x => x.1) ((u.most + 1).toNat, upG g u.least, []) ?_ ?_ ?_
  · exact ⟨hR0.symm, by dsimp only; omega, by dsimp only; omega, by simp⟩
  · refine ⟨rfl, rfl, ?_, ?_⟩
    all_goals repeat' (first | exact True.intro | refine leF_cons rfl ?_ ?_ | refine leS_cons rfl ?_ ?_ | (show PLe _ _ _ _; conv => whnf) | (show SLe _ _ _ _; conv => whnf) | (show PLeL _ _ _ _; conv => whnf) | apply And.intro | rfl | exact Nat.le_refl _ | exact fun _ _ => rfl | exact rowEq0 _ _)
  · intro x hx
    obtain ⟨n, q, out⟩ := x
    obtain ⟨h1, h2, h3, h4⟩ := hx
    dsimp only at h1 h2 h3 h4
    conv => whnf
    refine ⟨trivial, fun hc1 => ?_, fun hc1 => ?_⟩
    · have hqm : q ≤ u.most := of_decide_eq_true hc1
      obtain ⟨n, rfl⟩ : ∃ m, n = m + 1 := ⟨n - 1, by omega⟩
      unfold flowL at h1
      rw [if_pos hqm] at h1
      conv => whnf
      refine ⟨_, fun _ => call92 _ u q hl, ?_⟩
      have hgt := fun e => insL_gt (l := u.rough) (q := q) (e := e)
      generalize insL q u.rough = I at h1 hgt ⊢
      cases I with
      | some e =>
        obtain ⟨hge, z, hz, hze⟩ := hgt e rfl
        have hzr := u5 z hz
        have hqe := upG_rng (g := g) (x := e) (by omega) (by omega)
        have he1 : Int.tdiv (e + g - 1) g = (e + g - 1) / g := Int.tdiv_eq_ediv_of_nonneg (by omega)
        have he2 : (e + g - 1) / g * g = upG g e := rfl
        rw [show (some e).getD 0 = e from rfl, show (some e).isSome = true from rfl]
        conv => whnf
        refine ⟨?_, fun _ => ?_, fun h => (by cases h)⟩
        · (try conv => whnf)
          (repeat' (first | exact True.intro | exact fun _ h => h | refine inR64_of ?_ ?_ | apply And.intro | refine maxLen_ge ?_)) <;> (first | omega | (dsimp only; omega))
        conv => whnf
        rw [he1, he2]
        refine ⟨?_, (n, upG g e, out), ⟨h1, by dsimp only; omega, by dsimp only; omega, h4⟩, by dsimp only; omega, rfl, rfl, ?_, ?_⟩
        · (try conv => whnf)
          (repeat' (first | exact True.intro | exact fun _ h => h | refine inR64_of ?_ ?_ | apply And.intro | refine maxLen_ge ?_)) <;> (first | omega | (dsimp only; omega))
        all_goals repeat' (first | exact True.intro | refine leF_cons rfl ?_ ?_ | refine leS_cons rfl ?_ ?_ | (show PLe _ _ _ _; conv => whnf) | (show SLe _ _ _ _; conv => whnf) | (show PLeL _ _ _ _; conv => whnf) | apply And.intro | rfl | exact Nat.le_refl _ | exact fun _ _ => rfl | exact rowEq0 _ _)
        all_goals first | (rw [he1]; rfl) | skip
      | none =>
        dsimp only at h1
        conv => whnf
        refine ⟨?_, fun h => (by cases h), fun _ => ?_⟩
        · (try conv => whnf)
          (repeat' (first | exact True.intro | exact fun _ h => h | refine inR64_of ?_ ?_ | apply And.intro | refine maxLen_ge ?_)) <;> (first | omega | (dsimp only; omega))
        conv => whnf
        refine ⟨?_, fun hc2 => ?_, fun hc2 => ?_⟩
        · (try conv => whnf)
          (repeat' (first | exact True.intro | exact fun _ h => h | refine inR64_of ?_ ?_ | apply And.intro | refine maxLen_ge ?_)) <;> (first | omega | (dsimp only; omega))
        · have hc2 : (out.length : Int) = 200 := beq_iff_eq.1 hc2
          rw [if_pos (by omega)] at h1
          rw [← h1]
          conv => whnf
          refine ⟨?_, [], ?_⟩
          · (try conv => whnf)
            (repeat' (first | exact True.intro | exact fun _ h => h | refine inR64_of ?_ ?_ | apply And.intro | refine maxLen_ge ?_)) <;> (first | omega | (dsimp only; omega))
          conv => whnf
          refine ⟨rfl, ?_, trivial, trivial⟩
          all_goals repeat' (first | exact True.intro | refine leF_cons rfl ?_ ?_ | refine leS_cons rfl ?_ ?_ | (show PLe _ _ _ _; conv => whnf) | (show SLe _ _ _ _; conv => whnf) | (show PLeL _ _ _ _; conv => whnf) | apply And.intro | rfl | exact Nat.le_refl _ | exact fun _ _ => rfl | exact rowEq0 _ _)
        · have hc2 : ¬ (out.length : Int) = 200 := beq_eq_false_iff_ne.1 hc2
          rw [if_neg (by omega)] at h1
          have qq := fl_push eInt out q
          have hxl : (out ++ [q]).length = out.length + 1 := by simp
          conv => whnf
          refine ⟨?_, (n, q + g, out ++ [q]), ⟨h1, by dsimp only; omega, by dsimp only; omega, by dsimp only; rw [hxl]; omega⟩, by dsimp only; omega, rfl, rfl, ?_, ?_⟩
          · (try conv => whnf)
            (repeat' (first | exact True.intro | exact fun _ h => h | refine inR64_of ?_ ?_ | apply And.intro | refine maxLen_ge ?_)) <;> (first | omega | decide | (dsimp only; omega) | (dsimp only [List.length_cons, List.length_nil]; omega) | (intro hg; rw [hg]; rfl) | (intro hg hh; rw [hg, hh]; rfl) | (intro hg; simp [-List.getD_eq_getElem?_getD, -Int.default_eq_zero] at hg; first | omega | (refine inR64_of ?_ ?_ <;> omega) | (constructor <;> omega)) | (simp [-List.getD_eq_getElem?_getD, -Int.default_eq_zero]; done))
          all_goals repeat' (first | exact True.intro | refine leF_cons rfl ?_ ?_ | refine leS_cons rfl ?_ ?_ | (show PLe _ _ _ _; conv => whnf) | (show SLe _ _ _ _; conv => whnf) | (show PLeL _ _ _ _; conv => whnf) | apply And.intro | rfl | exact Nat.le_refl _ | exact fun _ _ => rfl | exact rowEq0 _ _)
          all_goals first | exact qq | (dsimp only; rw [hxl]; rfl) | (dsimp only; rw [hxl]; done) | skip
    · have hqm : ¬ q ≤ u.most := of_decide_eq_false hc1
      have hf : flowL u g n q out = (out, 0) := by
        cases n with
        | zero => rfl
        | succ n => unfold flowL; rw [if_neg hqm]
      rw [← h1, hf]
      conv => whnf
      refine ⟨?_, [], ?_⟩
      · (try conv => whnf)
        (repeat' (first | exact True.intro | exact fun _ h => h | refine inR64_of ?_ ?_ | apply And.intro | refine maxLen_ge ?_)) <;> (first | omega | (dsimp only; omega))
      conv => whnf
      refine ⟨rfl, ?_, trivial, trivial⟩
      all_goals repeat' (first | exact True.intro | refine leF_cons rfl ?_ ?_ | refine leS_cons rfl ?_ ?_ | (show PLe _ _ _ _; conv => whnf) | (show SLe _ _ _ _; conv => whnf) | (show PLeL _ _ _ _; conv => whnf) | apply And.intro | rfl | exact Nat.le_refl _ | exact fun _ _ => rfl | exact rowEq0 _ _)
end Pv
end Go.Proofs.YtafnkpmoolbjjaaDoor
/- ARGUMENTS AS THEY COME IN: what a readable argument stands for. -/
set_option linter.unusedSimpArgs false
set_option linter.unusedVariables false
namespace Go.Proofs.YtafnkpmoolbjjaaDoor
namespace Pv
open Go.RowKit Go.ChangeShapes
inductive Sh where
  | int (k : IntKind)
  | bool
  | str
  | sl (shs : List Sh)
  deriving Inhabited
inductive ShR : Sh → PV → Prop where
  | int (k : IntKind) (n : Int) (h : inR k n) : ShR (.int k) (.int k n)
  | bool (b : Bool) : ShR .bool (.bool b)
  | str (s : List UInt8) (h : s.length ≤ maxLen) : ShR .str (.str s)
  | sl (shs : List Sh) (n : Nat) (f : Nat → List PV) (hn : n ≤ maxLen) (h1 : ∀ i, i < n → (f i).length = shs.length)
      (h2 : ∀ (i j : Nat) (s : Sh) (p : PV), i < n → shs[j]? = some s → (f i)[j]? = some p → ShR s p) : ShR (.sl shs) (.sl 1 shs.length n f)
def ShL (shs : List Sh) (ps : List PV) : Prop := ps.length = shs.length ∧ ∀ (j : Nat) (s : Sh) (p : PV), shs[j]? = some s → ps[j]? = some p → ShR s p
def fieldSh (sh : TypeId → Option (List Sh)) (P : Program) : Nat → List Field → Option (List Sh)
  | _, [] => some []
  | off, f :: fs => if f.offset = off then match sh f.type with
      | some s => if s.length = P.cellsOf f.type then match fieldSh sh P (off + s.length) fs with
          | some r => some (s ++ r)
          | none => none
        else none
      | none => none
    else none
def shp (P : Program) : Nat → TypeId → Option (List Sh)
  | 0, _ => none
  | m + 1, t => match P.underlying t with
    | some .bool => some [.bool]
    | some (.int k) => some [.int k]
    | some .string => some [.str]
    | some (.slice e) => match shp P m e with
      | some s => if s.length = P.cellsOf e ∧ 0 < s.length then some [.sl s] else none
      | none => none
    | some (.struct fs) => match fieldSh (shp P m) P 0 fs.toList with
      | some s => if s.length = P.cellsOf t then some s else none
      | none => none
    | _ => none
theorem ShR.flat {s : Sh} {p : PV} (h : ShR s p) : p.flat = true := by cases h <;> rfl
theorem ShR.mark1 {s : Sh} {p : PV} (h : ShR s p) : p.mark 1 = p := by cases h <;> rfl
theorem ShL.append {a b : List Sh} {x y : List PV} (h : ShL a x) (h' : ShL b y) : ShL (a ++ b) (x ++ y) := by
  refine ⟨by simp [h.1, h'.1], fun j s p hs hp => ?_⟩
  rw [List.getElem?_append] at hs hp
  rw [h.1] at hp
  split at hs
  · rename_i hj; rw [if_pos hj] at hp; exact h.2 j s p hs hp
  · rename_i hj; rw [if_neg hj] at hp; exact h'.2 _ s p hs hp
section
variable {H : Type} {enc : TypeId × Value → H} {P : Program} {w : World} {sp : Nat → Bool} {held : Bool} {X : Cx} {γ : Gh}
theorem trod_fields {m n : Nat} {cs : List Value} {xs : List (DataW H × List MemPlace)}
    (ih : ∀ (t : TypeId) (cs : List Value) (x : DataW H × List MemPlace) (shs : List Sh), shp P m t = some shs → DataW.trod enc P w 0 sp held n t cs = some x → ∃ ps, ShL shs ps ∧ RepL X γ w ps cs ∧ ∀ u ∈ cs, u.oneCell' = true) :
    ∀ (fs : List Field) (off k : Nat) (shs : List Sh), fieldSh (shp P m) P off fs = some shs → off + shs.length = cs.length → (∀ i f, fs[i]? = some f → DataW.trod enc P w 0 sp held n f.type ((cs.drop f.offset).take (P.cellsOf f.type)) = xs[k + i]?) → k + fs.length = xs.length →
      ∃ ps, ShL shs ps ∧ RepL X γ w ps (cs.drop off) ∧ ∀ u ∈ cs.drop off, u.oneCell' = true
  | [], off, k, shs, h, hl, hx, hk => by
    simp only [fieldSh, Option.some.injEq] at h; subst h
    have e : cs.drop off = [] := List.drop_eq_nil_of_le (by simpa using hl.symm ▸ Nat.le_refl _)
    rw [e]
    exact ⟨[], ⟨rfl, fun j s p hs => by simp at hs⟩, RepL.nil_, by simp⟩
  | f :: fs, off, k, shs, h, hl, hx, hk => by
    simp only [fieldSh] at h
    split at h
    · rename_i hoff
      split at h
      · rename_i s hs
        split at h
        · rename_i hsl
          split at h
          · rename_i r hr
            injection h with h; subst h
            simp only [List.length_append] at hl
            obtain ⟨ps', h1, h2, h3⟩ := trod_fields (cs := cs) ih fs (off + s.length) (k + 1) r hr (by omega) (fun i f' hf => by
              have := hx (i + 1) f' (by simpa using hf)
              rw [show k + (i + 1) = k + 1 + i from by omega] at this; exact this) (by simp only [List.length_cons] at hk; omega)
            have h0 := hx 0 f rfl
            have hk0 : k + 0 < xs.length := by simp only [List.length_cons] at hk; omega
            rw [List.getElem?_eq_getElem hk0] at h0
            obtain ⟨ps, g1, g2, g3⟩ := ih _ _ _ _ hs h0
            rw [hoff, ← hsl] at g2 g3
            have e : cs.drop off = (cs.drop off).take s.length ++ cs.drop (off + s.length) := by
              rw [← List.drop_drop, List.take_append_drop]
            refine ⟨ps ++ ps', g1.append h1, ?_, ?_⟩
            · rw [e]; exact g2.append h2
            · rw [e]
              intro u hu
              rcases List.mem_append.1 hu with hu | hu
              · exact g3 u hu
              · exact h3 u hu
          · cases h
        · cases h
      · cases h
    · cases h
theorem trod_rep (hX : ∀ b, b < w.heap.size → mayLie X γ 1 b) : ∀ (m fuel : Nat) (t : TypeId) (cs : List Value) (x : DataW H × List MemPlace) (shs : List Sh), shp P m t = some shs → DataW.trod enc P w 0 sp held fuel t cs = some x →
    ∃ ps, ShL shs ps ∧ RepL X γ w ps cs ∧ ∀ u ∈ cs, u.oneCell' = true := by
  have one : ∀ (s : Sh) (p : PV) (v : Value), ShR s p → Rep X γ w p v → v.oneCell' = true → ∃ ps, ShL [s] ps ∧ RepL X γ w ps [v] ∧ ∀ u ∈ [v], u.oneCell' = true := fun s p v h1 h2 h3 =>
    ⟨[p], ⟨rfl, fun j s' p' hs hp => by
      cases j with
      | zero => simp only [List.getElem?_cons_zero, Option.some.injEq] at hs hp; subst hs; subst hp; exact h1
      | succ j => simp at hs⟩, RepL.cons_ h2 RepL.nil_, by simpa using h3⟩
  intro m
  induction m with
  | zero => intro fuel t cs x shs h; simp [shp] at h
  | succ m ih =>
    intro fuel t cs x shs h hd
    simp only [shp] at h
    split at h
    · rename_i ht
      injection h with h; subst h
      obtain ⟨b, rfl, _⟩ := DataW.trod_bool ht hd
      exact one _ _ _ (.bool b) (.bool b) rfl
    · rename_i k ht
      injection h with h; subst h
      obtain ⟨n, rfl, _, hw⟩ := DataW.trod_int ht hd
      simp only [Lit.wf, Bool.and_eq_true, decide_eq_true_eq] at hw
      exact one _ _ _ (.int k n hw) (.int k n) rfl
    · rename_i ht
      injection h with h; subst h
      obtain ⟨s, rfl, _, hw⟩ := DataW.trod_string ht hd
      have e : s = ⟨s.data.toList.toArray⟩ := by cases s; simp
      refine one _ (.str s.data.toList) _ (.str _ (by rw [Array.length_toList]; exact hw)) ?_ rfl
      have := Rep.str (X := X) (γ := γ) (w := w) s.data.toList
      rwa [← e] at this
    · rename_i e ht
      split at h
      · rename_i s hs
        split at h
        · rename_i hc
          obtain ⟨hsl, hpos⟩ := hc
          injection h with h; subst h
          rcases DataW.trod_slice ht hd with ⟨rfl, _⟩ | ⟨a, len, cap, elems, rest, n, hf, rfl, _, hb, hlc, hcm, hel, helem, _, _⟩
          · refine one _ (.sl 1 s.length 0 (fun _ => [])) _ (.sl s 0 _ (Nat.zero_le _) (fun i hi => by omega) (fun i j s p hi => by omega)) ?_ rfl
            exact .sl 1 _ 0 _ none 0 (fun _ => undef) (Nat.le_refl _) (fun i hi => by omega) (fun i hi => by omega) (fun hi => by omega) (fun i j c hi => by omega)
          · have hex : ∀ i, ∃ ps, i < len → ShL s ps ∧ ∃ cs', w.cells? 0 (a.add (i * P.cellsOf e)) (P.cellsOf e) = some cs' ∧ RepL X γ w ps cs' := fun i => by
              by_cases hi : i < len
              · have h1 := helem i hi
                rw [List.getElem?_eq_getElem (by omega)] at h1
                obtain ⟨cs', h2, h3⟩ := Option.bind_eq_some_iff.1 h1
                obtain ⟨ps, g1, g2, _⟩ := ih _ _ _ _ _ hs h3
                exact ⟨ps, fun _ => ⟨g1, cs', h2, g2⟩⟩
              · exact ⟨[], fun h => absurd h hi⟩
            let f : Nat → List PV := fun i => Classical.choose (hex i)
            have hf' : ∀ i, i < len → ShL s (f i) ∧ ∃ cs', w.cells? 0 (a.add (i * P.cellsOf e)) (P.cellsOf e) = some cs' ∧ RepL X γ w (f i) cs' := fun i => Classical.choose_spec (hex i)
            have hcell : ∀ i j, i < len → j < s.length → ∃ u p, w.cell? (a.add (i * s.length + j)) = some u ∧ (f i)[j]? = some p ∧ Rep X γ w p u := fun i j hi hj => by
              obtain ⟨g1, cs', g2, g3⟩ := hf' i hi
              obtain ⟨_, k2, k3⟩ := World.cells?_some g2
              have hj' : j < cs'.length := by rw [k2, ← hsl]; exact hj
              have hk := k3 j (by rw [← hsl]; exact hj)
              rw [List.getElem?_eq_getElem hj', add_add_, ← hsl] at hk
              have hpj : j < (f i).length := by rw [g1.1]; exact hj
              exact ⟨_, _, hk, List.getElem?_eq_getElem hpj, g3.2 j _ _ (List.getElem?_eq_getElem hpj) (List.getElem?_eq_getElem hj')⟩
            refine one _ (.sl 1 s.length len f) _ (.sl s len f (Nat.le_trans hlc hcm) (fun i hi => (hf' i hi).1.1) (fun i j s' p hi hs' hp => (hf' i hi).1.2 j s' p hs' hp)) ?_ rfl
            have hsh : ∀ i, i < len → ∀ c ∈ f i, ∃ s', ShR s' c := fun i hi c hc => by
              obtain ⟨j, hj⟩ := List.getElem?_of_mem hc
              have hlt := (List.getElem?_eq_some_iff.1 hj).1
              have hlt2 : j < s.length := by rw [← (hf' i hi).1.1]; exact hlt
              exact ⟨_, (hf' i hi).1.2 j _ _ (List.getElem?_eq_getElem hlt2) hj⟩
            refine .sl 1 s.length len f (some a) cap (fun k => (w.cell? (a.add k)).getD undef) hlc (fun i hi => (hf' i hi).1.1) (fun i hi c hc => by obtain ⟨s', h⟩ := hsh i hi c hc; exact h.flat) (fun hn => ?_) (fun i j c hi hc => ?_)
            · obtain ⟨u, p, h1, _, _⟩ := hcell 0 0 hn hpos
              have hblk : a.block < w.heap.size := by
                obtain ⟨_, cs', g2, _⟩ := hf' 0 hn
                have := World.cells?_block g2 (by omega)
                have e : (a.add (0 * P.cellsOf e)).block = a.block := by unfold Addr.add; split <;> rfl
                rwa [e] at this
              refine ⟨a, rfl, hX _ hblk, hblk, fun k hk => ?_⟩
              have hk1 : k / s.length < len := by rw [Nat.div_lt_iff_lt_mul hpos]; exact hk
              obtain ⟨u, p, h1, _, _⟩ := hcell (k / s.length) (k % s.length) hk1 (Nat.mod_lt _ hpos)
              rw [Nat.mul_comm, Nat.div_add_mod] at h1
              rw [h1]; rfl
            · have hj : j < s.length := by rw [← (hf' i hi).1.1]; exact (List.getElem?_eq_some_iff.1 hc).1
              obtain ⟨u, p, h1, h2, h3⟩ := hcell i j hi hj
              rw [h2] at hc; injection hc with hc; subst hc
              obtain ⟨s', h⟩ := hsh i hi p (List.mem_of_getElem? h2)
              rw [h.mark1, h1]; exact h3
        · cases h
      · cases h
    · rename_i fs ht
      split at h
      · rename_i s hs
        split at h
        · rename_i hsl
          injection h with h; subst h
          obtain ⟨xs, n, rfl, _, hcl, hxl, hx⟩ := DataW.trod_struct ht hd
          obtain ⟨ps, h1, h2, h3⟩ := trod_fields (cs := cs) (xs := xs) (ih n) fs.toList 0 0 s hs (by omega) (fun i f hf => by rw [Nat.zero_add]; exact hx i f (by simpa using hf)) (by simpa using hxl.symm)
          exact ⟨ps, h1, by simpa using h2, by simpa using h3⟩
        · cases h
      · cases h
    · cases h
end
end Pv
end Go.Proofs.YtafnkpmoolbjjaaDoor
/- A LAW's ROW, FROM ITS FUNCTION's CONTRACT. -/
set_option linter.unusedSimpArgs false
set_option linter.unusedVariables false
namespace Go.Proofs.YtafnkpmoolbjjaaDoor
namespace Pv
open Go.RowKit Go.ChangeShapes
section
variable {H : Type} {enc : TypeId × Value → H} {P : Program} {w : World} {sp : Nat → Bool} {held : Bool}
def cx0 (w : World) : Cx := ⟨w.heap.size, fun b => b < w.heap.size, fun _ => False, 0, fun _ => none⟩
def gh0 : Gh := fun _ => none
theorem gh0_own (b : Nat) : ¬ gh0.own b := by rintro ⟨r, ge, h, _⟩; cases h
theorem lie0 (b : Nat) (hb : b < w.heap.size) : mayLie (cx0 w) gh0 1 b := ⟨gh0_own b, .inr (.inl ⟨Nat.le_refl _, hb⟩)⟩
def GlobOK (w : World) : Prop := ∀ b p, glob b = some p → ∃ o, w.heap[b]? = some o ∧ p o
theorem globOK_none (h : ∀ b, glob b = none) : GlobOK w := fun b p hb => by rw [h b] at hb; cases hb
theorem st0 (hgl : GlobOK w) : RepSt (cx0 w) gh0 w (fun r => ([] : List SE)[r]?) :=
  ⟨fun r => by simp [gh0], fun r ge e h => (by cases h), fun r r' ge ge' b h => (by cases h), fun b hb => absurd hb (gh0_own b), fun b hb => absurd hb (gh0_own b), fun b p hb => ⟨hgl b p hb, gh0_own b, by
    obtain ⟨o, h1, _⟩ := hgl b p hb
    exact (Array.getElem?_eq_some_iff.1 h1).1⟩⟩
theorem law_calls (hgl : GlobOK w) {f : FuncId} {args : List PV} {vals : List Value} (h : PureCall P f args [] ⟨.bool true, [], []⟩) (hr : RepL (cx0 w) gh0 w args vals) :
    Calls P f vals.toArray w fun e w' => e = .returned (.bool true) ∧ Below w.heap.size w w' := by
  have hst : RepSt ⟨w.heap.size, (cx0 w).as, (cx0 w).ls, ([] : List SE).length, gh0⟩ gh0 w (fun r => ([] : List SE)[r]?) :=
    st0 (w := w) hgl
  refine (h.2 w gh0 (cx0 w).as (cx0 w).ls vals hst (fun b hb => hb.elim (fun h => h) (fun h => h.elim)) hr).mono ?_
  rintro e w' ⟨v, γ', rfl, hv, _, hk, _, _⟩
  cases hv.bool_inv
  exact ⟨rfl, hk.os, hk.tape, hk.output, hk.size, fun k hk' => hk.block k hk' (gh0_own k)⟩
theorem arg_one {m : Nat} {t : TypeId} {s : Sh} {v : Value} {d : DataW H} {ps : List MemPlace} (hs : shp P m t = some [s]) (hv : v.oneCell' = true) (h : DataW.Trod enc P w 0 sp held t v d ps) : ∃ p, ShR s p ∧ Rep (cx0 w) gh0 w p v := by
  obtain ⟨fuel, hf⟩ := h
  rw [cells_one hv] at hf
  obtain ⟨ps, h1, h2, _⟩ := trod_rep (X := cx0 w) (γ := gh0) lie0 _ _ _ _ _ _ hs hf
  obtain ⟨h1, h1'⟩ := h1
  match ps, h1 with
  | [p], _ =>
    obtain ⟨u, us, hu, hr, _⟩ := h2.cons_inv
    simp only [List.cons.injEq] at hu
    exact ⟨p, h1' 0 s p rfl rfl, by rw [hu.1]; exact hr⟩
theorem arg_agg {m : Nat} {t : TypeId} {shs : List Sh} {cs : Array Value} {d : DataW H} {ps : List MemPlace} (hs : shp P m t = some shs) (h : DataW.Trod enc P w 0 sp held t (.agg cs) d ps) : ∃ qs, ShL shs qs ∧ Rep (cx0 w) gh0 w (.agg qs) (.agg cs) := by
  obtain ⟨fuel, hf⟩ := h
  obtain ⟨qs, h1, h2, h3⟩ := trod_rep (X := cx0 w) (γ := gh0) lie0 _ _ _ _ _ _ hs hf
  have := Rep.agg qs cs.toList h2.1 h3 h2.2
  exact ⟨qs, h1, by simpa using this⟩
theorem Rep.le0 (hgl : GlobOK w) {p q : PV} {v : Value} (h : Rep (cx0 w) gh0 w p v) (hl : PLe (fun r => ([] : List SE)[r]?) (fun _ => true) p q) : Rep (cx0 w) gh0 w q v :=
  h.le (γk := gh0) (st0 hgl) (fun r ge b τ e z n f hr => (by cases hr)) (fun r ge hr _ => hr) (fun r ge hr => ⟨hr, rfl⟩) q hl
theorem sh_list (hgl : GlobOK w) {α : Type} [Inhabited α] (e : α → List PV) (Q : α → Prop) {shs : List Sh} (hdec : ∀ ps, ShL shs ps → ∃ x, ps = e x ∧ Q x) {p : PV} (h : ShR (.sl shs) p) {v : Value} (hr : Rep (cx0 w) gh0 w p v) :
    ∃ l : List α, Rep (cx0 w) gh0 w (.sl 1 shs.length l.length (fl e l)) v ∧ l.length ≤ maxLen ∧ ∀ x ∈ l, Q x := by
  cases h with
  | sl _ n f hn h1 h2 =>
    have hx : ∀ i, ∃ x, i < n → f i = e x ∧ Q x := fun i => by
      by_cases hi : i < n
      · obtain ⟨x, hx⟩ := hdec (f i) ⟨h1 i hi, fun j s p hs hp => h2 i j s p hi hs hp⟩
        exact ⟨x, fun _ => hx⟩
      · exact ⟨default, fun h => absurd h hi⟩
    let g : Nat → α := fun i => Classical.choose (hx i)
    have hg : ∀ i, i < n → f i = e (g i) ∧ Q (g i) := fun i => Classical.choose_spec (hx i)
    refine ⟨(List.range n).map g, hr.le0 hgl ?_, by simpa using hn, fun x hm => ?_⟩
    · refine ⟨Nat.le_refl _, rfl, by simp, fun i hi => ?_⟩
      rw [(hg i hi).1]
      simp [fl, List.getD_eq_getElem?_getD, hi]
    · obtain ⟨i, hi, rfl⟩ := List.mem_map.1 hm
      exact (hg i (List.mem_range.1 hi)).2
theorem sh_int {k : IntKind} {p : PV} (h : ShR (.int k) p) : ∃ n, p = .int k n ∧ inR k n := by cases h with | int _ n h => exact ⟨n, rfl, h⟩
theorem sh_bool {p : PV} (h : ShR .bool p) : ∃ b, p = .bool b := by cases h with | bool b => exact ⟨b, rfl⟩
theorem sh_str {p : PV} (h : ShR .str p) : ∃ s, p = .str s ∧ s.length ≤ maxLen := by cases h with | str s h => exact ⟨s, rfl, h⟩
theorem shl_cons {s : Sh} {ss : List Sh} {ps : List PV} (h : ShL (s :: ss) ps) : ∃ p qs, ps = p :: qs ∧ ShR s p ∧ ShL ss qs := by
  obtain ⟨h1, h2⟩ := h
  match ps, h1 with
  | p :: qs, h1 => exact ⟨p, qs, rfl, h2 0 s p rfl rfl, by simpa using h1, fun j s' p' hs hp => h2 (j + 1) s' p' (by simpa using hs) (by simpa using hp)⟩
theorem shl_nil {ps : List PV} (h : ShL [] ps) : ps = [] := List.eq_nil_of_length_eq_zero h.1
end
end Pv
end Go.Proofs.YtafnkpmoolbjjaaDoor
/- A LAW's ROW, FROM ITS FUNCTION's CONTRACT: how long slices are that came in. -/
set_option linter.unusedSimpArgs false
set_option linter.unusedVariables false
namespace Go.Proofs.YtafnkpmoolbjjaaDoor
namespace Pv
open Go.RowKit Go.ChangeShapes
section
variable {H : Type} {enc : TypeId × Value → H} {P : Program} {w : World} {sp : Nat → Bool} {held : Bool}
theorem sized_len {ts : List TypeId} {ds : List (DataW H)} (hz : (DataW.weightsEach P ts ds).all (· ≤ reachBytes) = true) {j : Nat} {t e : TypeId} {d : DataW H} {ps : List MemPlace} {a : Option Addr} {len cap : Nat}
    (ht : ts[j]? = some t) (hd : ds[j]? = some d) (hu : P.underlying t = some (.slice e)) (h : DataW.Trod enc P w 0 sp held t (.slice a len cap) d ps)
    (hb : 0 < P.bytesOf e) {X : Cx} {γ : Gh} {τ z n : Nat} {f : Nat → List PV} (hr : Rep X γ w (.sl τ z n f) (.slice a len cap)) : n ≤ 140737488351232 := by
  have hn : n = len := by cases hr; rfl
  subst hn
  obtain ⟨fuel, hf⟩ := h
  rcases DataW.trod_slice hu hf with ⟨h1, _⟩ | ⟨a', len', cap', elems, rest, m, _, h1, h2, _, _, _, h3, _⟩
  · have h1' : Value.slice a n cap = .slice none 0 0 := by simpa [Value.cells] using h1
    injection h1' with _ h4 _
    omega
  · have h1' : Value.slice a n cap = .slice (some a') len' cap' := by simpa [Value.cells] using h1
    injection h1' with _ h4 _
    injection h2 with h5 _
    subst h5
    have := sized_slice hz ht hd hu
    simp only [List.length_map] at this
    have h6 : n * 1 ≤ (elems.length + rest.length) * P.bytesOf e := Nat.mul_le_mul (by omega) hb
    have h7 : reachBytes = 140737488351232 := rfl
    omega
end
end Pv
end Go.Proofs.YtafnkpmoolbjjaaDoor
set_option linter.unusedSimpArgs false
set_option linter.unusedVariables false
namespace Go.Proofs.YtafnkpmoolbjjaaDoor
namespace Pv
open Go.RowKit Go.ChangeShapes
section
variable {H : Type} {enc : TypeId × Value → H} {P : Program} {w : World} {sp : Nat → Bool} {held : Bool}
def eSl {α : Type} [Inhabited α] (k : Nat) (e : α → List PV) (m : List α) : List PV := [.sl 1 k m.length (fl e m)]
theorem sh_list2 (hgl : GlobOK w) {α : Type} [Inhabited α] (e : α → List PV) (Q : α → Prop) {shs : List Sh} (hdec : ∀ ps, ShL shs ps → ∃ x, ps = e x ∧ Q x) {p : PV} (h : ShR (.sl [.sl shs]) p) {v : Value} (hr : Rep (cx0 w) gh0 w p v) :
    ∃ G : List (List α), Rep (cx0 w) gh0 w (.sl 1 1 G.length (fl (eSl shs.length e) G)) v ∧ G.length ≤ maxLen ∧ ∀ m ∈ G, ∀ x ∈ m, Q x := by
  cases h with
  | sl _ n f hn h1 h2 =>
    have hx : ∀ i, ∃ m : List α, i < n → ∃ f', f i = [.sl 1 shs.length m.length f'] ∧ RowEq m.length f' (fl e m) ∧ ∀ x ∈ m, Q x := fun i => by
      by_cases hi : i < n
      · have hl := h1 i hi
        match hf : f i, hl with
        | [c], _ =>
          have hc := h2 i 0 (.sl shs) c hi rfl (by rw [hf]; rfl)
          cases hc with
          | sl _ n' f' hn' g1 g2 =>
            have hy : ∀ i, ∃ x, i < n' → f' i = e x ∧ Q x := fun j => by
              by_cases hj : j < n'
              · obtain ⟨x, hx⟩ := hdec (f' j) ⟨g1 j hj, fun k s p hs hp => g2 j k s p hj hs hp⟩
                exact ⟨x, fun _ => hx⟩
              · exact ⟨default, fun h => absurd h hj⟩
            refine ⟨(List.range n').map fun j => Classical.choose (hy j), fun _ => ⟨f', by simp, fun j hj => ?_, fun x hm => ?_⟩⟩
            · simp only [List.length_map, List.length_range] at hj
              rw [(Classical.choose_spec (hy j) hj).1]
              simp [fl, List.getD_eq_getElem?_getD, hj]
            · obtain ⟨j, hj, rfl⟩ := List.mem_map.1 hm
              exact (Classical.choose_spec (hy j) (List.mem_range.1 hj)).2
      · exact ⟨[], fun h => absurd h hi⟩
    let g : Nat → List α := fun i => Classical.choose (hx i)
    have hg : ∀ i, i < n → ∃ f', f i = [.sl 1 shs.length (g i).length f'] ∧ RowEq (g i).length f' (fl e (g i)) ∧ ∀ x ∈ g i, Q x := fun i => Classical.choose_spec (hx i)
    refine ⟨(List.range n).map g, ?_, by simpa using hn, fun m hm => ?_⟩
    · have hget : ∀ i, i < n → fl (eSl shs.length e) ((List.range n).map g) i = [.sl 1 shs.length (g i).length (fl e (g i))] := fun i hi => by
        simp [fl, eSl, List.getD_eq_getElem?_getD, hi]
      have hlen : ((List.range n).map g).length = n := by simp
      cases hr with
      | sl _ _ _ _ ad cap vs hcap hz hf hb hh =>
        rw [hlen]
        refine .sl 1 1 n _ ad cap vs hcap (fun i hi => by rw [hget i hi]; rfl) (fun i hi c hc => ?_) hb (fun i j c hi hc => ?_)
        · rw [hget i hi] at hc
          rw [List.mem_singleton.1 hc]; rfl
        · rw [hget i hi] at hc
          obtain ⟨f', e1, e2, _⟩ := hg i hi
          cases j with
          | zero =>
            simp only [List.getElem?_cons_zero, Option.some.injEq] at hc
            subst hc
            have := hh i 0 _ hi (by rw [e1]; rfl)
            exact this.le0 hgl ⟨Nat.le_refl _, rfl, rfl, e2⟩
          | succ j => simp at hc
    · obtain ⟨i, hi, rfl⟩ := List.mem_map.1 hm
      obtain ⟨_, _, _, h3⟩ := hg i (List.mem_range.1 hi)
      exact h3
theorem weightsAll_mem {e : TypeId} : ∀ {l : List (DataW H)} {i : Nat} {d : DataW H}, l[i]? = some d → ∀ n ∈ d.weights P e, n ∈ DataW.weightsAll P e l
  | [], i, d, h, n, hn => by simp at h
  | x :: l, 0, d, h, n, hn => by
    simp only [List.getElem?_cons_zero, Option.some.injEq] at h
    subst h
    simp only [DataW.weightsAll, List.mem_append]; exact .inl hn
  | x :: l, i + 1, d, h, n, hn => by
    simp only [DataW.weightsAll, List.mem_append]; exact .inr (weightsAll_mem (by simpa using h) n hn)
theorem sized_len2 {ts : List TypeId} {ds : List (DataW H)} (hz : (DataW.weightsEach P ts ds).all (· ≤ reachBytes) = true) {j : Nat} {t e e2 : TypeId} {d : DataW H} {ps : List MemPlace} {a : Option Addr} {len cap : Nat}
    (ht : ts[j]? = some t) (hd : ds[j]? = some d) (hu : P.underlying t = some (.slice e)) (hu2 : P.underlying e = some (.slice e2)) (hce : P.cellsOf e = 1) (h : DataW.Trod enc P w 0 sp held t (.slice a len cap) d ps)
    {X : Cx} {γ : Gh} {τ n : Nat} {F : Nat → List PV} (hr : Rep X γ w (.sl τ 1 n F) (.slice a len cap)) {i τ' z' N : Nat} {f' : Nat → List PV} (hi : i < n) (hF : F i = [.sl τ' z' N f']) : N * P.bytesOf e2 ≤ 140737488351232 := by
  have hreach : reachBytes = 140737488351232 := rfl
  cases hr with
  | sl _ _ _ _ _ _ vs hcap hz' hf hb hh =>
  obtain ⟨a', rfl, _, _, hcell⟩ := hb (by omega)
  obtain ⟨fuel, hfu⟩ := h
  rcases DataW.trod_slice hu hfu with ⟨h1, _⟩ | ⟨a'', len', cap', elems, rest, m, _, h1, h2, _, _, _, h3, h4, _⟩
  · simp [Value.cells] at h1
  · have h1' : Value.slice (some a') len cap = .slice (some a'') len' cap' := by simpa [Value.cells] using h1
    injection h1' with h5 h6 h7
    injection h5 with h5
    subst h5; subst h6
    injection h2 with h8 _
    subst h8
    have h9 := h4 i hi
    rw [List.getElem?_eq_getElem (by omega), hce, Nat.mul_one] at h9
    obtain ⟨cs', g1, g2⟩ := Option.bind_eq_some_iff.1 h9
    obtain ⟨_, k2, k3⟩ := World.cells?_some g1
    have k4 := k3 0 (by omega)
    have hv := hcell i (by omega)
    rw [add_add_, Nat.add_zero, hv] at k4
    have hcs : cs' = [vs i] := by
      match cs', k2, k4 with
      | [x], _, k4 => simp only [List.getElem?_cons_zero, Option.some.injEq] at k4; rw [k4]
    have hrep := hh i 0 _ hi (by rw [hF]; rfl)
    rw [Nat.mul_one, Nat.add_zero] at hrep
    simp only [PV.mark] at hrep
    subst hcs
    generalize vs i = u at hrep g2
    cases hrep with
    | sl _ _ _ _ ad cap2 vs2 _ _ _ _ _ =>
    rcases DataW.trod_slice hu2 g2 with ⟨q1, _⟩ | ⟨b, len2, cap3, elems2, rest2, m2, _, q1, q2, _, _, _, q3, _⟩
    · have q1' : Value.slice ad N cap2 = .slice none 0 0 := by simpa using q1
      injection q1' with _ q5 _
      subst q5; rw [Nat.zero_mul]; exact Nat.zero_le _
    · have q1' : Value.slice ad N cap2 = .slice (some b) len2 cap3 := by simpa using q1
      injection q1' with _ q5 _
      subst q5
      have hmem : (elems2.map (·.1)).length * P.bytesOf e2 ≤ ((elems2.map (·.1)).length + (rest2.map (·.1)).length) * P.bytesOf e2 := Nat.mul_le_mul_right _ (by omega)
      have he : (elems.map (·.1))[i]? = some (DataW.slice (elems2.map (·.1)) (rest2.map (·.1))) := by
        rw [List.getElem?_map, List.getElem?_eq_getElem (by omega), Option.map_some, q2]
      have hw1 : ((elems2.map (·.1)).length + (rest2.map (·.1)).length) * P.bytesOf e2 ∈ DataW.weightsEach P ts ds := by
        refine DataW.weights_mem_each ht hd _ ?_
        simp only [DataW.weights, hu, List.mem_cons, List.mem_append]
        refine .inr (.inl (weightsAll_mem he _ ?_))
        simp [DataW.weights, hu2]
      have := List.all_eq_true.1 hz _ hw1
      have h10 : ((elems2.map (·.1)).length + (rest2.map (·.1)).length) * P.bytesOf e2 ≤ reachBytes := by simpa using this
      have h11 : (elems2.map (·.1)).length = N := by rw [List.length_map]; exact q3
      rw [h11] at hmem h10
      omega
end
end Pv
end Go.Proofs.YtafnkpmoolbjjaaDoor
