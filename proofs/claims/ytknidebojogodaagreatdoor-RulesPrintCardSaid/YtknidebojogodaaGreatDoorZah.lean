/- A LAW's ROW, FROM ITS FUNCTION's CONTRACT: slices of slices that came in. -/
import Derived.Test.YtknidebojogodaaGreatDoorZag
import Derived.Test.YtknidebojogodaaGreatDoorZaf
import Derived.ProofKit
import Derived.ChangeOld
import Derived.DataElems
import Derived.Below
import Derived.SizedLaws
/- LAW 13, THE WALKS: the reference's first error of a condition, of conditions. -/
set_option linter.unusedSimpArgs false
set_option linter.unusedVariables false
namespace Go.Proofs.YtknidebojogodaaGreatDoor
namespace Pv
def c75 : C := (.seq (.reg [⟨(some 4), 64, none, .mv (.c (.bool false))⟩])
  (.seq (.reg [⟨(some 5), 80, none, .mv (.t 0)⟩,
    ⟨(some 6), 96, none, .bi false .geq (.t 5) (.c (.int .i64 0))⟩,
    ⟨(some 7), 112, none, .mv (.t 6)⟩,
    ⟨(some 8), 128, (some (7, true)), .mv (.t 0)⟩,
    ⟨(some 9), 144, (some (7, true)), .mv (.t 1)⟩,
    ⟨(some 10), 160, (some (7, true)), .bi false .leq (.t 8) (.t 9)⟩,
    ⟨(some 11), 176, none, .pick (.t 7) (.t 10) (.c (.bool false))⟩,
    ⟨(some 4), 64, none, .mv (.t 11)⟩])
  .ret))
theorem fits75 : fits Tryz.prog false Tryz.f75 2 12 [(4, none)] = some c75.er := by kernel_rfl
def c59 : C := (.seq (.reg [⟨(some 4), 64, none, .mv (.c (.bool false))⟩])
  (.seq (.reg [⟨(some 5), 80, none, .mv (.t 0)⟩,
    ⟨(some 6), 96, none, .mv (.t 1)⟩,
    ⟨(some 7), 112, none, .call (.c (.fn (.func 75) [] [])) [(.t 5), (.t 6)]⟩,
    ⟨(some 4), 64, none, .mv (.t 7)⟩])
  .ret))
theorem fits59 : fits Tryz.prog false Tryz.f59 2 8 [(4, none)] = some c59.er := by kernel_rfl
def c76 : C := (.seq (.reg [⟨(some 2), 32, none, .mv (.c (.bool false))⟩])
  (.seq (.reg [⟨(some 3), 48, none, .mv (.t 0)⟩,
    ⟨(some 4), 64, none, .call (.c (.fn (.func 59) [] [])) [(.t 3), (.c (.int .i64 364))]⟩,
    ⟨(some 2), 32, none, .mv (.t 4)⟩])
  .ret))
theorem fits76 : fits Tryz.prog false Tryz.f76 1 5 [(2, none)] = some c76.er := by kernel_rfl
def c60 : C := (.seq (.reg [⟨(some 1), 16, none, .bx 2 (.t 0)⟩,
    ⟨(some 2), 32, none, .mv (.c (.bool false))⟩])
  (.seq (.reg [⟨(some 3), 48, none, .fa 0 (.t 1)⟩,
    ⟨(some 4), 64, none, .ld 1 false (.t 3)⟩,
    ⟨(some 5), 80, none, .call (.c (.fn (.func 76) [] [])) [(.t 4)]⟩,
    ⟨(some 6), 96, none, .mv (.t 5)⟩,
    ⟨(some 7), 112, (some (6, true)), .fa 1 (.t 1)⟩,
    ⟨(some 8), 128, (some (6, true)), .ld 1 false (.t 7)⟩,
    ⟨(some 9), 144, (some (6, true)), .call (.c (.fn (.func 76) [] [])) [(.t 8)]⟩,
    ⟨(some 10), 160, none, .pick (.t 6) (.t 9) (.c (.bool false))⟩,
    ⟨(some 2), 32, none, .mv (.t 10)⟩])
  .ret))
theorem fits60 : fits Tryz.prog false Tryz.f60 1 11 [(2, none)] = some c60.er := by kernel_rfl
def c42 : C := (.seq (.reg [⟨(some 1), 16, none, .bx 7 (.t 0)⟩,
    ⟨(some 2), 32, none, .mv (.c (.int .i64 0))⟩])
  (.seq (.seq (.reg [⟨(some 3), 48, none, .fa 0 (.t 1)⟩,
    ⟨(some 4), 64, none, .ld 1 false (.t 3)⟩,
    ⟨(some 5), 80, none, .bi false .lss (.t 4) (.c (.int .i64 1))⟩,
    ⟨(some 6), 96, none, .mv (.t 5)⟩,
    ⟨(some 7), 112, (some (6, false)), .fa 0 (.t 1)⟩,
    ⟨(some 8), 128, (some (6, false)), .ld 1 false (.t 7)⟩,
    ⟨(some 9), 144, (some (6, false)), .bi false .gtr (.t 8) (.c (.int .i64 9))⟩,
    ⟨(some 10), 160, none, .pick (.t 6) (.c (.bool true)) (.t 9)⟩])
  (.cond (.t 10) (.seq (.reg [⟨(some 2), 32, none, .mv (.c (.int .i64 1))⟩])
  .ret) .skip))
  (.seq (.seq (.reg [⟨(some 11), 176, none, .fa 1 (.t 1)⟩,
    ⟨(some 12), 192, none, .ld 1 false (.t 11)⟩,
    ⟨(some 13), 208, none, .bi false .lss (.t 12) (.c (.int .i64 1))⟩,
    ⟨(some 14), 224, none, .mv (.t 13)⟩,
    ⟨(some 15), 240, (some (14, false)), .fa 1 (.t 1)⟩,
    ⟨(some 16), 256, (some (14, false)), .ld 1 false (.t 15)⟩,
    ⟨(some 17), 272, (some (14, false)), .bi false .gtr (.t 16) (.c (.int .i64 4))⟩,
    ⟨(some 18), 288, none, .pick (.t 14) (.c (.bool true)) (.t 17)⟩])
  (.cond (.t 18) (.seq (.reg [⟨(some 2), 32, none, .mv (.c (.int .i64 5))⟩])
  .ret) .skip))
  (.seq (.seq (.reg [⟨(some 19), 304, none, .fa 2 (.t 1)⟩,
    ⟨(some 20), 320, none, .ld 1 false (.t 19)⟩,
    ⟨(some 21), 336, none, .call (.c (.fn (.func 59) [] [])) [(.t 20), (.c (.int .i64 1073741824))]⟩,
    ⟨(some 22), 352, none, .un false .not (.t 21)⟩,
    ⟨(some 23), 368, none, .mv (.t 22)⟩,
    ⟨(some 24), 384, (some (23, false)), .fa 3 (.t 1)⟩,
    ⟨(some 25), 400, (some (23, false)), .ld 2 true (.t 24)⟩,
    ⟨(some 26), 416, (some (23, false)), .call (.c (.fn (.func 60) [] [])) [(.t 25)]⟩,
    ⟨(some 27), 432, (some (23, false)), .un false .not (.t 26)⟩,
    ⟨(some 28), 448, none, .pick (.t 23) (.c (.bool true)) (.t 27)⟩,
    ⟨(some 29), 464, none, .mv (.t 28)⟩,
    ⟨(some 30), 480, (some (29, false)), .fa 5 (.t 1)⟩,
    ⟨(some 31), 496, (some (29, false)), .ld 1 false (.t 30)⟩,
    ⟨(some 32), 512, (some (29, false)), .call (.c (.fn (.func 59) [] [])) [(.t 31), (.c (.int .i64 16777216))]⟩,
    ⟨(some 33), 528, (some (29, false)), .un false .not (.t 32)⟩,
    ⟨(some 34), 544, none, .pick (.t 29) (.c (.bool true)) (.t 33)⟩,
    ⟨(some 35), 560, none, .mv (.t 34)⟩,
    ⟨(some 36), 576, (some (35, false)), .fa 6 (.t 1)⟩,
    ⟨(some 37), 592, (some (35, false)), .ld 1 false (.t 36)⟩,
    ⟨(some 38), 608, (some (35, false)), .call (.c (.fn (.func 59) [] [])) [(.t 37), (.c (.int .i64 16777216))]⟩,
    ⟨(some 39), 624, (some (35, false)), .un false .not (.t 38)⟩,
    ⟨(some 40), 640, none, .pick (.t 35) (.c (.bool true)) (.t 39)⟩,
    ⟨(some 41), 656, none, .mv (.t 40)⟩,
    ⟨(some 42), 672, (some (41, false)), .fa 5 (.t 1)⟩,
    ⟨(some 43), 688, (some (41, false)), .ld 1 false (.t 42)⟩,
    ⟨(some 44), 704, (some (41, false)), .fa 6 (.t 1)⟩,
    ⟨(some 45), 720, (some (41, false)), .ld 1 false (.t 44)⟩,
    ⟨(some 46), 736, (some (41, false)), .bi false .gtr (.t 43) (.t 45)⟩,
    ⟨(some 47), 752, none, .pick (.t 41) (.c (.bool true)) (.t 46)⟩])
  (.cond (.t 47) (.seq (.reg [⟨(some 2), 32, none, .mv (.c (.int .i64 1))⟩])
  .ret) .skip))
  (.seq (.reg [⟨(some 2), 32, none, .mv (.c (.int .i64 0))⟩])
  .ret)))))
theorem fits42 : fits Tryz.prog false Tryz.f42 1 48 [(2, none)] = some c42.er := by kernel_rfl
def c30L1 : C := (.seq (.reg [⟨(some 12), 192, none, .bi false .lss (.t 11) (.t 10)⟩])
  (.seq (.cond (.t 12) .skip (.exit 0))
  (.seq (.block 1 (.seq (.reg [⟨(some 13), 208, none, .ia 7 (.t 9) (.t 11)⟩,
    ⟨(some 14), 224, none, .ld 7 true (.t 13)⟩,
    ⟨(some 4), 64, none, .al [(.int .i64 0), (.int .i64 0), (.int .i64 0), (.int .i64 0), (.int .i64 0), (.int .i64 0), (.int .i64 0)]⟩,
    ⟨none, 0, none, .st 7 (.t 4) (.t 14)⟩])
  (.seq (.reg [⟨(some 15), 240, none, .ld 7 true (.t 4)⟩,
    ⟨(some 16), 256, none, .call (.c (.fn (.func 42) [] [])) [(.t 15)]⟩,
    ⟨(some 5), 80, none, .mv (.t 16)⟩])
  (.seq (.reg [⟨(some 17), 272, none, .mv (.t 5)⟩,
    ⟨(some 18), 288, none, .bi false .neq (.t 17) (.c (.int .i64 0))⟩])
  (.cond (.t 18) (.seq (.reg [⟨(some 19), 304, none, .mv (.t 5)⟩,
    ⟨(some 2), 32, none, .mv (.t 19)⟩])
  .ret) .skip)))))
  (.reg [⟨(some 20), 320, none, .bi false .add (.t 11) (.c (.int .i64 1))⟩,
    ⟨(some 11), 176, none, .mv (.t 20)⟩]))))
def c30 : C := (.seq (.reg [⟨(some 2), 32, none, .mv (.c (.int .i64 0))⟩])
  (.seq (.seq (.reg [⟨(some 6), 96, none, .mv (.t 0)⟩,
    ⟨(some 7), 112, none, .len (.t 6)⟩,
    ⟨(some 8), 128, none, .bi false .gtr (.t 7) (.c (.int .i64 200))⟩])
  (.cond (.t 8) (.seq (.reg [⟨(some 2), 32, none, .mv (.c (.int .i64 10))⟩])
  .ret) .skip))
  (.seq (.seq (.reg [⟨(some 9), 144, none, .mv (.t 0)⟩,
    ⟨(some 10), 160, none, .len (.t 9)⟩,
    ⟨(some 11), 176, none, .mv (.c (.int .i64 0))⟩])
  (.block 0 (.loop c30L1)))
  (.seq (.reg [⟨(some 2), 32, none, .mv (.c (.int .i64 0))⟩])
  .ret))))
theorem fits30 : fits Tryz.prog false Tryz.f30 1 21 [(2, none)] = some c30.er := by kernel_rfl
theorem call75 (n m : Int) : PureCall Tryz.prog 75 [.int .i64 n, .int .i64 m] [] ⟨.bool (wi n m), [], []⟩ := by
  refine pure_call mix Tryz.func75 fits75 rfl ?_
  conv => whnf
  refine ⟨?_, [], ?_⟩
  · exact g0
  conv => whnf
  refine ⟨rfl, ?_, trivial, trivial⟩
  show PLe _ _ _ _
  conv => whnf
  unfold wi
  cases decide (0 ≤ n) <;> rfl
theorem call59 (n m : Int) : PureCall Tryz.prog 59 [.int .i64 n, .int .i64 m] [] ⟨.bool (wi n m), [], []⟩ := by
  refine pure_call mix Tryz.func59 fits59 rfl ?_
  conv => whnf
  refine ⟨_, fun _ => call75 n m, ?_⟩
  conv => whnf
  exact ret
theorem call76 (n : Int) : PureCall Tryz.prog 76 [.int .i64 n] [] ⟨.bool (wi n 364), [], []⟩ := by
  refine pure_call mix Tryz.func76 fits76 rfl ?_
  conv => whnf
  refine ⟨_, fun _ => call59 n 364, ?_⟩
  conv => whnf
  exact ret
theorem call60 (f u : Int) : PureCall Tryz.prog 60 [.agg [.int .i64 f, .int .i64 u]] [] ⟨.bool (wi f 364 && wi u 364), [], []⟩ := by
  refine pure_call mix Tryz.func60 fits60 rfl ?_
  conv => whnf
  refine ⟨_, fun _ => call76 f, ?_⟩
  conv => whnf
  refine ⟨_, fun _ => call76 u, ?_⟩
  conv => whnf
  refine ⟨?_, [], ?_⟩
  · exact g0
  conv => whnf
  refine ⟨rfl, ?_, trivial, trivial⟩
  show PLe _ _ _ _
  conv => whnf
  cases wi f 364 <;> rfl
set_option maxRecDepth 100000 in
theorem call42 (c : Cd) : PureCall Tryz.prog 42 [.agg (eCd c)] [] ⟨.int .i64 (oneC c), [], []⟩ := by
  refine pure_call mix Tryz.func42 fits42 rfl ?_
  unfold oneC
  conv => whnf
  refine ⟨?_, fun hc => ?_, fun hc => ?_⟩
  · exact g0
  · simp only [bp] at hc
    rw [if_pos (by omega)]
    conv => whnf
    exact ret
  simp only [bp] at hc
  rw [if_neg (by omega)]
  conv => whnf
  refine ⟨?_, fun hc => ?_, fun hc => ?_⟩
  · exact g0
  · simp only [bp] at hc
    rw [if_pos (by omega)]
    conv => whnf
    exact ret
  simp only [bp] at hc
  rw [if_neg (by omega)]
  conv => whnf
  refine ⟨_, fun _ => call59 c.v 1073741824, ?_⟩
  conv => whnf
  refine ⟨_, fun _ => call60 c.f c.u, ?_⟩
  conv => whnf
  refine ⟨_, fun _ => call59 c.a 16777216, ?_⟩
  conv => whnf
  refine ⟨_, fun _ => call59 c.b 16777216, ?_⟩
  conv => whnf
  refine ⟨?_, fun hc => ?_, fun hc => ?_⟩
  · exact g0
  · have hb : badC c := of_decide_eq_true ((bad_test c).symm.trans hc)
    rw [if_pos hb]
    conv => whnf
    exact ret
  · have hb : ¬ badC c := of_decide_eq_false ((bad_test c).symm.trans hc)
    rw [if_neg hb]
    conv => whnf
    exact ret
set_option maxRecDepth 100000 in
theorem call30 (τ : Nat) (l : List Cd) : PureCall Tryz.prog 30 [.sl τ 7 l.length (fl eCd l)] [] ⟨.int .i64 (limC l), [], []⟩ := by
  refine pure_call mix Tryz.func30 fits30 rfl ?_
  unfold limC
  conv => whnf
  refine ⟨?_, fun hc => ?_, fun hc => ?_⟩
  · exact g0
  · simp only [bp] at hc
    rw [if_pos (by omega)]
    conv => whnf
    exact ret
  simp only [bp] at hc
  rw [if_neg (by omega)]
  conv => whnf
  refine ⟨trivial, ?_⟩
  refine LSem.loop (n := 21) mix (α := Nat) (fun i => i ≤ l.length ∧ allC (l.drop i) = allC l)
    (fun i => [(9, .sl τ 7 l.length (fl eCd l)), (10, .int .i64 l.length), (11, .int .i64 i)])
    (fun i => []) (fun i => l.length - i) 0 ?_ ?_ ?_
  · exact ⟨Nat.zero_le _, rfl⟩
  · refine ⟨rfl, rfl, ?_, ?_⟩ <;> exact ent
  · rintro i ⟨hi, hp⟩
    have hj : ((i : Int)).toNat = i := by omega
    conv => whnf
    refine ⟨trivial, fun hc => ?_, fun hc => ?_⟩
    · replace hc := of_decide_eq_true hc
      have hlt : i < l.length := by
        have h : (i : Int) < l.length := hc
        omega
      rw [allC_drop hlt] at hp
      conv => whnf
      rw [hj]
      refine ⟨_, fun _ => call42 (l.getD i default), ?_⟩
      generalize oneC (l.getD i default) = e at hp ⊢
      conv => whnf
      refine ⟨?_, fun h => ?_, fun h => ?_⟩
      · exact g0
      · simp only [bp] at h
        rw [if_pos h] at hp
        rw [← hp]
        conv => whnf
        exact ret
      · simp only [bp] at h
        rw [if_neg (by omega)] at hp
        conv => whnf
        refine ⟨?_, i + 1, ⟨hlt, hp⟩, by omega, rfl, rfl, ?_, ?_⟩
        · exact g0
        · exact ent
        · exact ent
    · replace hc := of_decide_eq_false hc
      have hk : i = l.length := by
        have h : ¬ (i : Int) < l.length := hc
        omega
      subst hk
      rw [List.drop_length] at hp
      rw [← show (0 : Int) = allC l from hp]
      conv => whnf
      exact ret
end Pv
end Go.Proofs.YtknidebojogodaaGreatDoor
/- LAW 13, THE WALKS: a text's lines that are conditions. -/
set_option linter.unusedSimpArgs false
set_option linter.unusedVariables false
namespace Go.Proofs.YtknidebojogodaaGreatDoor
namespace Pv
def c11 : C := (.seq (.reg [⟨(some 2), 32, none, .mv (.c (.nil 1))⟩])
  (.seq (.reg [⟨(some 3), 48, none, .mv (.t 0)⟩,
    ⟨(some 4), 64, none, .call (.c (.fn (.func 31) [] [])) [(.t 3), (.c (.fn (.func 32) [] []))]⟩,
    ⟨(some 2), 32, none, .mv (.t 4)⟩])
  .ret))
theorem fits11 : fits Tryz.prog false Tryz.f11 1 5 [(2, none)] = some c11.er := by kernel_rfl
def c36L1 : C := (.seq (.reg [⟨(some 11), 176, none, .bi false .lss (.t 10) (.t 9)⟩])
  (.seq (.cond (.t 11) .skip (.exit 0))
  (.seq (.block 1 (.seq (.reg [⟨(some 12), 192, none, .mv (.t 10)⟩,
    ⟨(some 13), 208, none, .ia 1 (.t 8) (.t 10)⟩,
    ⟨(some 14), 224, none, .ld 1 false (.t 13)⟩,
    ⟨(some 4), 64, none, .mv (.t 12)⟩,
    ⟨(some 5), 80, none, .mv (.t 14)⟩])
  (.seq (.reg [⟨(some 15), 240, none, .mv (.t 5)⟩,
    ⟨(some 16), 256, none, .call (.c (.fn (.func 11) [] [])) [(.t 15)]⟩,
    ⟨(some 6), 96, none, .mv (.t 16)⟩])
  (.seq (.reg [⟨(some 17), 272, none, .mv (.t 6)⟩,
    ⟨(some 18), 288, none, .len (.t 17)⟩,
    ⟨(some 19), 304, none, .bi false .gtr (.t 18) (.c (.int .i64 0))⟩,
    ⟨(some 20), 320, none, .mv (.t 19)⟩,
    ⟨(some 21), 336, (some (20, true)), .mv (.t 6)⟩,
    ⟨(some 22), 352, (some (20, true)), .ia 1 (.t 21) (.c (.int .i64 0))⟩,
    ⟨(some 23), 368, (some (20, true)), .ld 1 false (.t 22)⟩,
    ⟨(some 24), 384, (some (20, true)), .ixs (.t 23) (.c (.int .i64 0))⟩,
    ⟨(some 25), 400, (some (20, true)), .bi false .neq (.t 24) (.c (.int .u8 35))⟩,
    ⟨(some 26), 416, none, .pick (.t 20) (.t 25) (.c (.bool false))⟩])
  (.cond (.t 26) (.reg [⟨(some 27), 432, none, .mv (.t 3)⟩,
    ⟨(some 28), 448, none, .mv (.t 4)⟩,
    ⟨(some 29), 464, none, .bi false .add (.t 28) (.c (.int .i64 1))⟩,
    ⟨(some 30), 480, none, .mv (.t 6)⟩,
    ⟨(some 31), 496, none, .bd [(.int .i64 0), (.nil 1)] [(0, 1, (.t 29)), (1, 1, (.t 30))]⟩,
    ⟨(some 32), 512, none, .bs 73 2 [(.t 31)]⟩,
    ⟨(some 33), 528, none, .app 73 2 32 (.t 27) (.t 32)⟩,
    ⟨(some 3), 48, none, .mv (.t 33)⟩]) .skip)))))
  (.reg [⟨(some 34), 544, none, .bi false .add (.t 10) (.c (.int .i64 1))⟩,
    ⟨(some 10), 160, none, .mv (.t 34)⟩]))))
def c36 : C := (.seq (.reg [⟨(some 2), 32, none, .mv (.c (.nil 2))⟩])
  (.seq (.reg [⟨(some 3), 48, none, .mv (.c (.nil 2))⟩])
  (.seq (.seq (.reg [⟨(some 7), 112, none, .mv (.t 0)⟩,
    ⟨(some 8), 128, none, .call (.c (.fn (.func 16) [] [])) [(.t 7), (.c (.str [10]))]⟩,
    ⟨(some 9), 144, none, .len (.t 8)⟩,
    ⟨(some 10), 160, none, .mv (.c (.int .i64 0))⟩])
  (.block 0 (.loop c36L1)))
  (.seq (.reg [⟨(some 35), 560, none, .mv (.t 3)⟩,
    ⟨(some 2), 32, none, .mv (.t 35)⟩])
  .ret))))
theorem fits36 : fits Tryz.prog false Tryz.f36 1 36 [(2, none)] = some c36.er := by kernel_rfl
theorem call11 (s : List UInt8) (h : s.length ≤ 65536) : PureCall Tryz.prog 11 [.str s] [] ⟨.os 1000000000, [], [.row 0 9 1 (wordsB isBl s).length (fl eStr (wordsB isBl s))]⟩ := by
  refine pure_call mix Tryz.func11 fits11 rfl ?_
  conv => whnf
  refine ⟨_, fun _ => call31 s h, ?_⟩
  conv => whnf
  refine ⟨?_, [64], ?_⟩
  · exact g0
  conv => whnf
  refine ⟨rfl, ?_, trivial, ?_⟩ <;> exact ent
def cntd : List (List UInt8) → Bool
  | [] => false
  | x :: _ => !(x.getD 0 0 == 35)
def linL : Int → List (List (List UInt8)) → List (Int × List (List UInt8))
  | _, [] => []
  | i, w :: r => if cntd w = true then (i + 1, w) :: linL (i + 1) r else linL (i + 1) r
def eLn (x : Int × List (List UInt8)) : List PV := [.int .i64 x.1, .sl 0 1 x.2.length (fl eStr x.2)]
def linesW (s : List UInt8) : List (List (List UInt8)) := (splitC 10 s).map (wordsB isBl)
theorem linesW_getD {s : List UInt8} {i : Nat} (h : i < (splitC 10 s).length) : (linesW s).getD i default = wordsB isBl ((splitC 10 s).getD i default) := by
  simp [linesW, List.getD, h]
theorem linesW_len (s : List UInt8) : (linesW s).length = (splitC 10 s).length := by simp [linesW]
theorem linL_drop {W : List (List (List UInt8))} {i : Nat} (h : i < W.length) : linL (i : Int) (W.drop i) = if cntd (W.getD i default) = true then ((i : Int) + 1, W.getD i default) :: linL ((i : Int) + 1) (W.drop (i + 1)) else linL ((i : Int) + 1) (W.drop (i + 1)) := by
  rw [List.drop_eq_getElem_cons h]
  have : W.getD i default = W[i] := by simp [List.getD, h]
  rw [this]; rfl
set_option maxRecDepth 100000 in
set_option maxHeartbeats 8000000 in
theorem call36 (s : List UInt8) (hs : s.length ≤ 65536) : PureCall Tryz.prog 36 [.str s] [] ⟨.os 1000000000, [], [.row 0 73 2 (linL 0 (linesW s)).length (fl eLn (linL 0 (linesW s)))]⟩ := by
  obtain ⟨L, hL⟩ : ∃ L, L = splitC 10 s := ⟨_, rfl⟩
  obtain ⟨W, hW⟩ : ∃ W, W = linesW s := ⟨_, rfl⟩
  have hWl : W.length = L.length := by rw [hW, hL, linesW_len]
  have hLl : L.length ≤ 65537 := by have := (splitC_len 10 s).1; rw [← hL] at this; omega
  have hWg : ∀ i, i < L.length → W.getD i default = wordsB isBl (L.getD i default) := fun i hi => by
    rw [hW, linesW_getD (by rw [← hL]; exact hi), hL]
  have hLm : ∀ i, i < L.length → (L.getD i default).length ≤ 65536 := fun i hi => by
    have := (splitC_len 10 s).2 (L.getD i default) (by rw [← hL]; exact getD_mem hi); omega
  refine pure_call mix Tryz.func36 fits36 rfl ?_
  conv => whnf
  refine ⟨_, fun _ => call16 s 10 (by omega), ?_⟩
  rw [← hL, ← hW]
  conv => whnf
  refine ⟨?_, ?_⟩
  · exact g0
  refine LSem.adopt 3 1000000 73 2 2 rfl rfl ?_
  refine LSem.loop (n := 36) mix (α := Nat × List (Int × List (List UInt8))) (fun x => x.1 ≤ L.length ∧ x.2.length ≤ x.1 ∧ x.2 ++ linL (x.1 : Int) (W.drop x.1) = linL 0 W)
    (fun x => [(3, .os 1000000), (8, .os 128), (9, .int .i64 L.length), (10, .int .i64 x.1)])
    (fun x => [(1000000, .row 0 73 2 x.2.length (fl eLn x.2)), (128, .row 0 9 1 L.length (fl eStr L))]) (fun x => L.length - x.1) (0, []) ?_ ?_ ?_
  · exact ⟨Nat.zero_le _, Nat.le_refl _, rfl⟩
  · refine ⟨rfl, rfl, ?_, ?_⟩ <;> exact ent
  · rintro ⟨i, out⟩ ⟨hi, ho, hp⟩
    dsimp only at hi ho hp
    have hj : ((i : Int)).toNat = i := by omega
    conv => whnf
    refine ⟨trivial, fun hc => ?_, fun hc => ?_⟩
    · replace hc := of_decide_eq_true hc
      have hlt : i < L.length := by
        have h : (i : Int) < L.length := hc
        omega
      rw [linL_drop (by omega)] at hp
      have hWi := hWg i hlt
      have hok := words_ok isBl (L.getD i default)
      conv => whnf
      dsimp only
      rw [hj]
      refine ⟨_, fun _ => call11 (L.getD i default) (hLm i hlt), ?_⟩
      rw [← hWi] at hok ⊢
      generalize W.getD i default = w at hp hok ⊢
      cases w with
      | nil =>
        rw [if_neg (by decide)] at hp
        conv => whnf
        refine ⟨?_, fun h => (by cases h), fun _ => ?_⟩
        · exact g0
        conv => whnf
        refine ⟨?_, (i + 1, out), ⟨hlt, by dsimp only; omega, hp⟩, ?_, rfl, rfl, ?_, ?_⟩
        · exact g0
        · dsimp only; omega
        · exact ent
        · exact ent
      | cons x r =>
        have hx := (hok x (List.mem_cons_self ..)).1
        have hxl : 0 < x.length := List.length_pos_iff.2 hx
        have hcn : cntd (x :: r) = !(x.getD 0 0 == 35) := rfl
        have h35 : (((x.getD 0 0).toNat : Int) != 35) = !(x.getD 0 0 == 35) := by
          rw [Bool.eq_iff_iff]
          simp only [bne_iff_ne, ne_eq, Bool.not_eq_true', beq_eq_false_iff_ne]
          constructor
          · intro h e; rw [e] at h; exact h rfl
          · intro h e; exact h (UInt8.toNat_inj.1 (by show _ = 35; omega))
        rw [hcn, ← h35] at hp
        have hd : decide ((0 : Int) < (((x :: r).length : Nat) : Int)) = true := decide_eq_true (by rw [List.length_cons]; omega)
        conv => whnf
        refine ⟨?_, fun h => ?_, fun h => ?_⟩
        · exact g1
        · replace h : (((x.getD 0 0).toNat : Int) != 35) = true := by rw [hd] at h; exact h
          rw [if_pos h] at hp
          have q := fl_push eLn out ((i : Int) + 1, x :: r)
          have hol : (out ++ [((i : Int) + 1, x :: r)]).length = out.length + 1 := by simp
          conv => whnf
          refine ⟨?_, (i + 1, out ++ [((i : Int) + 1, x :: r)]), ⟨hlt, by dsimp only; rw [hol]; omega, by dsimp only; rw [List.append_assoc]; exact hp⟩, ?_, rfl, rfl, ?_, ?_⟩
          · exact g0
          · dsimp only; omega
          · exact ent
          · exact ent
        · replace h : (((x.getD 0 0).toNat : Int) != 35) = false := by rw [hd] at h; exact h
          rw [if_neg (by rw [h]; decide)] at hp
          conv => whnf
          refine ⟨?_, (i + 1, out), ⟨hlt, by dsimp only; omega, hp⟩, ?_, rfl, rfl, ?_, ?_⟩
          · exact g0
          · dsimp only; omega
          · exact ent
          · exact ent
    · replace hc := of_decide_eq_false hc
      have hk : i = L.length := by
        have h : ¬ (i : Int) < L.length := hc
        omega
      subst hk
      rw [← hWl, List.drop_length] at hp
      rw [show linL 0 W = out by rw [← hp]; exact List.append_nil out]
      conv => whnf
      refine ⟨?_, [1000000], ?_⟩
      · exact g0
      conv => whnf
      refine ⟨rfl, ?_, trivial, ?_⟩ <;> exact ent
end Pv
end Go.Proofs.YtknidebojogodaaGreatDoor
/- WORDS OF A TEXT: how many, how long. No program in sight. -/
set_option linter.unusedSimpArgs false
set_option linter.unusedVariables false
namespace Go.Proofs.YtknidebojogodaaGreatDoor
namespace Pv
theorem splitP_len (p : UInt8 → Bool) : ∀ s : List UInt8, (splitP p s).length ≤ s.length + 1 ∧ ∀ x ∈ splitP p s, x.length ≤ s.length
  | [] => by simp [splitP]
  | x :: xs => by
    obtain ⟨h1, h2⟩ := splitP_len p xs
    simp only [splitP]
    split
    · refine ⟨by simp only [List.length_cons]; omega, fun y hy => ?_⟩
      rcases List.mem_cons.1 hy with rfl | hy
      · simp
      · have := h2 y hy; simp only [List.length_cons]; omega
    · split
      · simp
      · rename_i h t he
        rw [he] at h1 h2
        refine ⟨by simp only [List.length_cons] at h1 ⊢; omega, fun y hy => ?_⟩
        rcases List.mem_cons.1 hy with rfl | hy
        · have := h2 h (List.mem_cons_self ..); simp only [List.length_cons]; omega
        · have := h2 y (List.mem_cons_of_mem _ hy); simp only [List.length_cons]; omega
theorem splitC_P (c : UInt8) : ∀ s : List UInt8, splitC c s = splitP (fun b => b == c) s
  | [] => rfl
  | x :: xs => by
    simp only [splitC, splitP, splitC_P c xs, beq_iff_eq] <;> (split <;> first | rfl | (cases splitP (fun b => b == c) xs <;> rfl))
theorem wordsB_mem {p : UInt8 → Bool} {s x : List UInt8} (h : x ∈ wordsB p s) : x.length ≤ s.length := (splitP_len p s).2 x (List.mem_filter.1 h).1
theorem wordsB_len (p : UInt8 → Bool) (s : List UInt8) : (wordsB p s).length ≤ s.length + 1 := Nat.le_trans (List.length_filter_le _ _) (splitP_len p s).1
end Pv
end Go.Proofs.YtknidebojogodaaGreatDoor
/- LAW 13, THE WALKS: a text's conditions. -/
set_option linter.unusedSimpArgs false
set_option linter.unusedVariables false
namespace Go.Proofs.YtknidebojogodaaGreatDoor
namespace Pv
def c18L1 : C := (.seq (.reg [⟨(some 23), 368, none, .bi false .lss (.t 22) (.t 21)⟩])
  (.seq (.cond (.t 23) .skip (.exit 0))
  (.seq (.block 1 (.seq (.reg [⟨(some 24), 384, none, .ia 2 (.t 20) (.t 22)⟩,
    ⟨(some 25), 400, none, .ld 2 true (.t 24)⟩,
    ⟨(some 8), 128, none, .al [(.int .i64 0), (.nil 1)]⟩,
    ⟨none, 0, none, .st 2 (.t 8) (.t 25)⟩])
  (.seq (.reg [⟨(some 27), 432, none, .fa 1 (.t 8)⟩,
    ⟨(some 28), 448, none, .ld 1 false (.t 27)⟩,
    ⟨(some 29), 464, none, .call (.c (.fn (.func 37) [] [])) [(.t 28)]⟩,
    ⟨(some 26), 416, none, .mv (.t 29)⟩,
    ⟨(some 30), 480, none, .ex (.t 26) 0⟩,
    ⟨(some 31), 496, none, .ex (.t 26) 1⟩,
    ⟨(some 9), 144, none, .al [(.int .i64 0), (.int .i64 0), (.int .i64 0), (.int .i64 0), (.int .i64 0), (.int .i64 0), (.int .i64 0)]⟩,
    ⟨none, 0, none, .st 7 (.t 9) (.t 30)⟩,
    ⟨(some 10), 160, none, .mv (.t 31)⟩])
  (.seq (.seq (.reg [⟨(some 32), 512, none, .mv (.t 10)⟩,
    ⟨(some 33), 528, none, .un false .not (.t 32)⟩])
  (.cond (.t 33) (.seq (.drw [⟨(some 34), 544, none, .fa 0 (.t 8)⟩,
    ⟨(some 35), 560, none, .ld 1 false (.t 34)⟩,
    ⟨(some 2), 32, none, .mv (.c (.nil 7))⟩,
    ⟨(some 3), 48, none, .mv (.t 35)⟩,
    ⟨(some 4), 64, none, .mv (.c (.int .i64 7))⟩]
    [(0, 2, 34), (1, 2, 35)])
  .ret) .skip))
  (.seq (.seq (.reg [⟨(some 36), 576, none, .ld 7 true (.t 9)⟩,
    ⟨(some 37), 592, none, .call (.c (.fn (.func 38) [] [])) [(.t 36)]⟩,
    ⟨(some 11), 176, none, .mv (.t 37)⟩])
  (.seq (.reg [⟨(some 38), 608, none, .mv (.t 11)⟩,
    ⟨(some 39), 624, none, .bi false .neq (.t 38) (.c (.int .i64 0))⟩])
  (.cond (.t 39) (.seq (.drw [⟨(some 40), 640, none, .fa 0 (.t 8)⟩,
    ⟨(some 41), 656, none, .ld 1 false (.t 40)⟩,
    ⟨(some 42), 672, none, .mv (.t 11)⟩,
    ⟨(some 2), 32, none, .mv (.c (.nil 7))⟩,
    ⟨(some 3), 48, none, .mv (.t 41)⟩,
    ⟨(some 4), 64, none, .mv (.t 42)⟩]
    [(0, 2, 40), (0, 3, 40), (1, 2, 41), (1, 3, 41), (2, 3, 42), (2, 4, 42)])
  .ret) .skip)))
  (.reg [⟨(some 43), 688, none, .mv (.t 6)⟩,
    ⟨(some 44), 704, none, .ld 7 true (.t 9)⟩,
    ⟨(some 45), 720, none, .bs 49 7 [(.t 44)]⟩,
    ⟨(some 46), 736, none, .app 49 7 56 (.t 43) (.t 45)⟩,
    ⟨(some 6), 96, none, .mv (.t 46)⟩]))))))
  (.reg [⟨(some 47), 752, none, .bi false .add (.t 22) (.c (.int .i64 1))⟩,
    ⟨(some 22), 352, none, .mv (.t 47)⟩]))))
def c18 : C := (.seq (.reg [⟨(some 2), 32, none, .mv (.c (.nil 7))⟩,
    ⟨(some 3), 48, none, .mv (.c (.int .i64 0))⟩,
    ⟨(some 4), 64, none, .mv (.c (.int .i64 0))⟩])
  (.seq (.seq (.reg [⟨(some 12), 192, none, .mv (.t 0)⟩,
    ⟨(some 13), 208, none, .lens (.t 12)⟩,
    ⟨(some 14), 224, none, .bi false .gtr (.t 13) (.c (.int .i64 65536))⟩])
  (.cond (.t 14) (.seq (.reg [⟨(some 2), 32, none, .mv (.c (.nil 7))⟩,
    ⟨(some 3), 48, none, .mv (.c (.int .i64 0))⟩,
    ⟨(some 4), 64, none, .mv (.c (.int .i64 10))⟩])
  .ret) .skip))
  (.seq (.reg [⟨(some 15), 240, none, .mv (.t 0)⟩,
    ⟨(some 16), 256, none, .call (.c (.fn (.func 36) [] [])) [(.t 15)]⟩,
    ⟨(some 5), 80, none, .mv (.t 16)⟩])
  (.seq (.seq (.reg [⟨(some 17), 272, none, .mv (.t 5)⟩,
    ⟨(some 18), 288, none, .len (.t 17)⟩,
    ⟨(some 19), 304, none, .bi false .gtr (.t 18) (.c (.int .i64 200))⟩])
  (.cond (.t 19) (.seq (.reg [⟨(some 2), 32, none, .mv (.c (.nil 7))⟩,
    ⟨(some 3), 48, none, .mv (.c (.int .i64 0))⟩,
    ⟨(some 4), 64, none, .mv (.c (.int .i64 10))⟩])
  .ret) .skip))
  (.seq (.reg [⟨(some 6), 96, none, .mv (.c (.nil 7))⟩])
  (.seq (.seq (.reg [⟨(some 20), 320, none, .mv (.t 5)⟩,
    ⟨(some 21), 336, none, .len (.t 20)⟩,
    ⟨(some 22), 352, none, .mv (.c (.int .i64 0))⟩])
  (.block 0 (.loop c18L1)))
  (.seq (.reg [⟨(some 48), 768, none, .mv (.t 6)⟩,
    ⟨(some 2), 32, none, .mv (.t 48)⟩,
    ⟨(some 3), 48, none, .mv (.c (.int .i64 0))⟩,
    ⟨(some 4), 64, none, .mv (.c (.int .i64 0))⟩])
  .ret)))))))
theorem fits18 : fits Tryz.prog false Tryz.f18 1 49 [(2, none), (3, none), (4, none)] = some c18.er := by kernel_rfl
theorem linL_mem : ∀ {W : List (List (List UInt8))} {i : Int} {x : Int × List (List UInt8)}, x ∈ linL i W → x.2 ∈ W
  | [], i, x, h => by simp [linL] at h
  | w :: r, i, x, h => by
    unfold linL at h
    split at h
    · rcases List.mem_cons.1 h with rfl | h
      · simp
      · exact List.mem_cons_of_mem _ (linL_mem h)
    · exact List.mem_cons_of_mem _ (linL_mem h)
theorem linL_len : ∀ (W : List (List (List UInt8))) (i : Int), (linL i W).length ≤ W.length
  | [], i => Nat.le_refl _
  | w :: r, i => by
    have ih := linL_len r (i + 1)
    unfold linL
    split <;> simp only [List.length_cons] <;> omega
theorem linesW_lens {s : List UInt8} (hs : s.length ≤ 65536) : ∀ w ∈ linesW s, wLens w := fun w hw => by
  obtain ⟨y, hy, rfl⟩ := List.mem_map.1 hw
  have h1 := (splitC_len 10 s).2 y hy
  have h2 := wordsB_len isBl y
  exact ⟨by omega, fun x hx => by have := wordsB_mem hx; omega⟩
def parG : List (Int × List (List UInt8)) → List Cd → List Cd × Int × Int
  | [], out => (out, 0, 0)
  | x :: r, out => if (condG x.2).2 = false then ([], x.1, 7) else if oneC (condG x.2).1 ≠ 0 then ([], x.1, oneC (condG x.2).1) else parG r (out ++ [(condG x.2).1])
def parseG (s : List UInt8) : List Cd × Int × Int := if 65536 < s.length then ([], 0, 10) else if 200 < (linL 0 (linesW s)).length then ([], 0, 10) else parG (linL 0 (linesW s)) []
theorem parG_drop {l : List (Int × List (List UInt8))} {i : Nat} (out : List Cd) (h : i < l.length) : parG (l.drop i) out = if (condG (l.getD i default).2).2 = false then ([], (l.getD i default).1, 7) else
    if oneC (condG (l.getD i default).2).1 ≠ 0 then ([], (l.getD i default).1, oneC (condG (l.getD i default).2).1) else parG (l.drop (i + 1)) (out ++ [(condG (l.getD i default).2).1]) := by
  rw [List.drop_eq_getElem_cons h]
  have : l.getD i default = l[i] := by simp [List.getD, h]
  rw [this]; rfl
set_option maxRecDepth 100000 in
set_option maxHeartbeats 8000000 in
theorem call18 (s : List UInt8) (hs : s.length ≤ 4611686018427387904) : PureCall Tryz.prog 18 [.str s] [] ⟨.tup [.sl 0 7 (parseG s).1.length (fl eCd (parseG s).1), .int .i64 (parseG s).2.1, .int .i64 (parseG s).2.2], [], []⟩ := by
  refine pure_call mix Tryz.func18 fits18 rfl ?_
  conv => whnf
  refine ⟨?_, fun hc => ?_, fun hc => ?_⟩
  · exact g0
  · simp only [bp] at hc
    rw [show parseG s = ([], 0, 10) by unfold parseG; rw [if_pos (by omega)]]
    conv => whnf
    exact ret
  simp only [bp] at hc
  have hs2 : s.length ≤ 65536 := by omega
  have hlen := linL_len (linesW s) 0
  rw [linesW_len] at hlen
  have hll2 := (splitC_len 10 s).1
  have hmem : ∀ i, i < (linL 0 (linesW s)).length → wLens ((linL 0 (linesW s)).getD i default).2 := fun i hi => linesW_lens hs2 _ (linL_mem (getD_mem hi))
  conv => whnf
  refine ⟨_, fun _ => call36 s hs2, ?_⟩
  conv => whnf
  refine ⟨?_, fun hc2 => ?_, fun hc2 => ?_⟩
  · exact g0
  · simp only [bp] at hc2
    rw [show parseG s = ([], 0, 10) by unfold parseG; rw [if_neg (by omega), if_pos (by omega)]]
    conv => whnf
    exact ret
  simp only [bp] at hc2
  rw [show parseG s = parG (linL 0 (linesW s)) [] by unfold parseG; rw [if_neg (by omega), if_neg (by omega)]]
  generalize linL 0 (linesW s) = l at hlen hmem hc2 ⊢
  conv => whnf
  refine ⟨trivial, ?_⟩
  refine LSem.adopt 6 1000000 49 7 7 rfl rfl ?_
  refine LSem.loop (n := 49) mix (α := Nat × List Cd) (fun x => x.1 ≤ l.length ∧ x.2.length ≤ x.1 ∧ parG (l.drop x.1) x.2 = parG l [])
    (fun x => [(6, .os 1000000), (20, .os 256), (21, .int .i64 l.length), (22, .int .i64 x.1)])
    (fun x => [(1000000, .row 0 49 7 x.2.length (fl eCd x.2)), (256, .row 0 73 2 l.length (fl eLn l))]) (fun x => l.length - x.1) (0, []) ?_ ?_ ?_
  · exact ⟨Nat.zero_le _, Nat.le_refl _, rfl⟩
  · refine ⟨rfl, rfl, ?_, ?_⟩ <;> exact ent
  · rintro ⟨i, out⟩ ⟨hi, ho, hp⟩
    dsimp only at hi ho hp
    have hj : ((i : Int)).toNat = i := by omega
    conv => whnf
    refine ⟨trivial, fun hc3 => ?_, fun hc3 => ?_⟩
    · replace hc3 := of_decide_eq_true hc3
      have hlt : i < l.length := by
        have h : (i : Int) < l.length := hc3
        omega
      have hw := hmem i hlt
      rw [parG_drop out hlt] at hp
      conv => whnf
      dsimp only
      rw [hj]
      refine ⟨_, fun _ => call37 (l.getD i default).2 hw, ?_⟩
      generalize condG (l.getD i default).2 = R at hp ⊢
      generalize (l.getD i default).1 = nu at hp ⊢
      conv => whnf
      refine ⟨?_, fun h1 => ?_, fun h1 => ?_⟩
      · exact g0
      · simp only [bp] at h1
        rw [if_pos h1] at hp
        rw [← hp]
        conv => whnf
        refine ⟨rfl, ?_⟩
        conv => whnf
        exact ret
      simp only [bp] at h1
      rw [if_neg (by rw [h1]; decide)] at hp
      conv => whnf
      refine ⟨_, fun _ => call38 R.1, ?_⟩
      conv => whnf
      refine ⟨?_, fun h2 => ?_, fun h2 => ?_⟩
      · exact g0
      · simp only [bp] at h2
        rw [if_pos h2] at hp
        rw [← hp]
        conv => whnf
        refine ⟨rfl, ?_⟩
        conv => whnf
        exact ret
      · simp only [bp] at h2
        rw [if_neg (by omega)] at hp
        have q := fl_push eCd out R.1
        conv => whnf
        refine ⟨?_, (i + 1, out ++ [R.1]), ⟨hlt, by dsimp only; rw [List.length_append]; simp only [List.length_cons, List.length_nil]; omega, hp⟩, ?_, rfl, rfl, ?_, ?_⟩
        · exact g0
        · dsimp only; omega
        · exact ent
        · exact ent
    · replace hc3 := of_decide_eq_false hc3
      have hk : i = l.length := by
        have h : ¬ (i : Int) < l.length := hc3
        omega
      subst hk
      rw [List.drop_length] at hp
      have hp2 : (out, (0 : Int), (0 : Int)) = parG l [] := hp
      rw [← hp2]
      conv => whnf
      exact ret
end Pv
end Go.Proofs.YtknidebojogodaaGreatDoor
/- THE WALKS: lines, words and numbers of a text, as the references take them. -/
set_option linter.unusedSimpArgs false
set_option linter.unusedVariables false
namespace Go.Proofs.YtknidebojogodaaGreatDoor
namespace Pv
def c39L1 : C := (.seq (.seq (.reg [⟨(some 6), 96, none, .mv (.t 5)⟩,
    ⟨(some 7), 112, none, .mv (.t 0)⟩,
    ⟨(some 8), 128, none, .lens (.t 7)⟩,
    ⟨(some 9), 144, none, .bi false .leq (.t 6) (.t 8)⟩])
  (.cond (.t 9) .skip (.exit 0)))
  (.seq (.block 1 (.seq (.reg [⟨(some 12), 192, none, .mv (.t 5)⟩,
    ⟨(some 13), 208, none, .mv (.t 0)⟩,
    ⟨(some 14), 224, none, .lens (.t 13)⟩,
    ⟨(some 15), 240, none, .bi false .eql (.t 12) (.t 14)⟩,
    ⟨(some 16), 256, none, .mv (.t 15)⟩,
    ⟨(some 17), 272, (some (16, false)), .mv (.t 0)⟩,
    ⟨(some 18), 288, (some (16, false)), .mv (.t 5)⟩,
    ⟨(some 19), 304, (some (16, false)), .ixs (.t 17) (.t 18)⟩,
    ⟨(some 20), 320, (some (16, false)), .bi false .eql (.t 19) (.c (.int .u8 10))⟩,
    ⟨(some 21), 336, none, .pick (.t 16) (.c (.bool true)) (.t 20)⟩])
  (.cond (.t 21) (.seq (.reg [⟨(some 22), 352, none, .mv (.t 3)⟩,
    ⟨(some 23), 368, none, .mv (.t 0)⟩,
    ⟨(some 24), 384, none, .mv (.t 4)⟩,
    ⟨(some 25), 400, none, .mv (.t 5)⟩,
    ⟨(some 26), 416, none, .slcs (.t 23) (some (.t 24)) (some (.t 25))⟩,
    ⟨(some 27), 432, none, .bs 9 1 [(.t 26)]⟩,
    ⟨(some 28), 448, none, .app 9 1 16 (.t 22) (.t 27)⟩,
    ⟨(some 3), 48, none, .mv (.t 28)⟩])
  (.reg [⟨(some 29), 464, none, .mv (.t 5)⟩,
    ⟨(some 30), 480, none, .bi false .add (.t 29) (.c (.int .i64 1))⟩,
    ⟨(some 4), 64, none, .mv (.t 30)⟩])) .skip)))
  (.reg [⟨(some 10), 160, none, .mv (.t 5)⟩,
    ⟨(some 11), 176, none, .bi false .add (.t 10) (.c (.int .i64 1))⟩,
    ⟨(some 5), 80, none, .mv (.t 11)⟩])))
def c39 : C := (.seq (.reg [⟨(some 2), 32, none, .mv (.c (.nil 1))⟩])
  (.seq (.reg [⟨(some 3), 48, none, .mv (.c (.nil 1))⟩])
  (.seq (.reg [⟨(some 4), 64, none, .mv (.c (.int .i64 0))⟩])
  (.seq (.seq (.reg [⟨(some 5), 80, none, .mv (.c (.int .i64 0))⟩])
  (.block 0 (.loop c39L1)))
  (.seq (.reg [⟨(some 31), 496, none, .mv (.t 3)⟩,
    ⟨(some 2), 32, none, .mv (.t 31)⟩])
  .ret)))))
theorem fits39 : fits Tryz.prog false Tryz.f39 1 32 [(2, none)] = some c39.er := by kernel_rfl
def c33L1 : C := (.seq (.seq (.reg [⟨(some 6), 96, none, .mv (.t 5)⟩,
    ⟨(some 7), 112, none, .mv (.t 0)⟩,
    ⟨(some 8), 128, none, .lens (.t 7)⟩,
    ⟨(some 9), 144, none, .bi false .leq (.t 6) (.t 8)⟩])
  (.cond (.t 9) .skip (.exit 0)))
  (.seq (.block 1 (.seq (.reg [⟨(some 12), 192, none, .mv (.t 5)⟩,
    ⟨(some 13), 208, none, .mv (.t 0)⟩,
    ⟨(some 14), 224, none, .lens (.t 13)⟩,
    ⟨(some 15), 240, none, .bi false .eql (.t 12) (.t 14)⟩,
    ⟨(some 16), 256, none, .mv (.t 15)⟩,
    ⟨(some 17), 272, (some (16, false)), .mv (.t 0)⟩,
    ⟨(some 18), 288, (some (16, false)), .mv (.t 5)⟩,
    ⟨(some 19), 304, (some (16, false)), .ixs (.t 17) (.t 18)⟩,
    ⟨(some 20), 320, (some (16, false)), .bi false .eql (.t 19) (.c (.int .u8 32))⟩,
    ⟨(some 21), 336, none, .pick (.t 16) (.c (.bool true)) (.t 20)⟩,
    ⟨(some 22), 352, none, .mv (.t 21)⟩,
    ⟨(some 23), 368, (some (22, false)), .mv (.t 0)⟩,
    ⟨(some 24), 384, (some (22, false)), .mv (.t 5)⟩,
    ⟨(some 25), 400, (some (22, false)), .ixs (.t 23) (.t 24)⟩,
    ⟨(some 26), 416, (some (22, false)), .bi false .eql (.t 25) (.c (.int .u8 10))⟩,
    ⟨(some 27), 432, none, .pick (.t 22) (.c (.bool true)) (.t 26)⟩])
  (.cond (.t 27) (.seq (.seq (.reg [⟨(some 28), 448, none, .mv (.t 5)⟩,
    ⟨(some 29), 464, none, .mv (.t 4)⟩,
    ⟨(some 30), 480, none, .bi false .gtr (.t 28) (.t 29)⟩])
  (.cond (.t 30) (.reg [⟨(some 31), 496, none, .mv (.t 3)⟩,
    ⟨(some 32), 512, none, .mv (.t 0)⟩,
    ⟨(some 33), 528, none, .mv (.t 4)⟩,
    ⟨(some 34), 544, none, .mv (.t 5)⟩,
    ⟨(some 35), 560, none, .slcs (.t 32) (some (.t 33)) (some (.t 34))⟩,
    ⟨(some 36), 576, none, .bs 9 1 [(.t 35)]⟩,
    ⟨(some 37), 592, none, .app 9 1 16 (.t 31) (.t 36)⟩,
    ⟨(some 3), 48, none, .mv (.t 37)⟩]) .skip))
  (.reg [⟨(some 38), 608, none, .mv (.t 5)⟩,
    ⟨(some 39), 624, none, .bi false .add (.t 38) (.c (.int .i64 1))⟩,
    ⟨(some 4), 64, none, .mv (.t 39)⟩])) .skip)))
  (.reg [⟨(some 10), 160, none, .mv (.t 5)⟩,
    ⟨(some 11), 176, none, .bi false .add (.t 10) (.c (.int .i64 1))⟩,
    ⟨(some 5), 80, none, .mv (.t 11)⟩])))
def c33 : C := (.seq (.reg [⟨(some 2), 32, none, .mv (.c (.nil 1))⟩])
  (.seq (.reg [⟨(some 3), 48, none, .mv (.c (.nil 1))⟩])
  (.seq (.reg [⟨(some 4), 64, none, .mv (.c (.int .i64 0))⟩])
  (.seq (.seq (.reg [⟨(some 5), 80, none, .mv (.c (.int .i64 0))⟩])
  (.block 0 (.loop c33L1)))
  (.seq (.reg [⟨(some 40), 640, none, .mv (.t 3)⟩,
    ⟨(some 2), 32, none, .mv (.t 40)⟩])
  .ret)))))
theorem fits33 : fits Tryz.prog false Tryz.f33 1 41 [(2, none)] = some c33.er := by kernel_rfl
def c74L1 : C := (.seq (.seq (.reg [⟨(some 14), 224, none, .mv (.t 5)⟩,
    ⟨(some 15), 240, none, .mv (.t 0)⟩,
    ⟨(some 16), 256, none, .lens (.t 15)⟩,
    ⟨(some 17), 272, none, .bi false .lss (.t 14) (.t 16)⟩])
  (.cond (.t 17) .skip (.exit 0)))
  (.seq (.block 1 (.seq (.seq (.reg [⟨(some 20), 320, none, .mv (.t 0)⟩,
    ⟨(some 21), 336, none, .mv (.t 5)⟩,
    ⟨(some 22), 352, none, .ixs (.t 20) (.t 21)⟩,
    ⟨(some 23), 368, none, .bi false .lss (.t 22) (.c (.int .u8 48))⟩,
    ⟨(some 24), 384, none, .mv (.t 23)⟩,
    ⟨(some 25), 400, (some (24, false)), .mv (.t 0)⟩,
    ⟨(some 26), 416, (some (24, false)), .mv (.t 5)⟩,
    ⟨(some 27), 432, (some (24, false)), .ixs (.t 25) (.t 26)⟩,
    ⟨(some 28), 448, (some (24, false)), .bi false .gtr (.t 27) (.c (.int .u8 57))⟩,
    ⟨(some 29), 464, none, .pick (.t 24) (.c (.bool true)) (.t 28)⟩])
  (.cond (.t 29) (.seq (.reg [⟨(some 2), 32, none, .mv (.c (.int .i64 0))⟩,
    ⟨(some 3), 48, none, .mv (.c (.bool false))⟩])
  .ret) .skip))
  (.reg [⟨(some 30), 480, none, .mv (.t 4)⟩,
    ⟨(some 31), 496, none, .bi false .mul (.c (.int .i64 10)) (.t 30)⟩,
    ⟨(some 32), 512, none, .mv (.t 0)⟩,
    ⟨(some 33), 528, none, .mv (.t 5)⟩,
    ⟨(some 34), 544, none, .ixs (.t 32) (.t 33)⟩,
    ⟨(some 35), 560, none, .bi false .sub (.t 34) (.c (.int .u8 48))⟩,
    ⟨(some 36), 576, none, .cv false .i64 (.t 35)⟩,
    ⟨(some 37), 592, none, .bi false .add (.t 31) (.t 36)⟩,
    ⟨(some 4), 64, none, .mv (.t 37)⟩])))
  (.reg [⟨(some 18), 288, none, .mv (.t 5)⟩,
    ⟨(some 19), 304, none, .bi false .add (.t 18) (.c (.int .i64 1))⟩,
    ⟨(some 5), 80, none, .mv (.t 19)⟩])))
def c74 : C := (.seq (.reg [⟨(some 2), 32, none, .mv (.c (.int .i64 0))⟩,
    ⟨(some 3), 48, none, .mv (.c (.bool false))⟩])
  (.seq (.seq (.reg [⟨(some 6), 96, none, .mv (.t 0)⟩,
    ⟨(some 7), 112, none, .lens (.t 6)⟩,
    ⟨(some 8), 128, none, .bi false .lss (.t 7) (.c (.int .i64 1))⟩,
    ⟨(some 9), 144, none, .mv (.t 8)⟩,
    ⟨(some 10), 160, (some (9, false)), .mv (.t 0)⟩,
    ⟨(some 11), 176, (some (9, false)), .lens (.t 10)⟩,
    ⟨(some 12), 192, (some (9, false)), .bi false .gtr (.t 11) (.c (.int .i64 10))⟩,
    ⟨(some 13), 208, none, .pick (.t 9) (.c (.bool true)) (.t 12)⟩])
  (.cond (.t 13) (.seq (.reg [⟨(some 2), 32, none, .mv (.c (.int .i64 0))⟩,
    ⟨(some 3), 48, none, .mv (.c (.bool false))⟩])
  .ret) .skip))
  (.seq (.reg [⟨(some 4), 64, none, .mv (.c (.int .i64 0))⟩])
  (.seq (.seq (.reg [⟨(some 5), 80, none, .mv (.c (.int .i64 0))⟩])
  (.block 0 (.loop c74L1)))
  (.seq (.reg [⟨(some 38), 608, none, .mv (.t 4)⟩,
    ⟨(some 2), 32, none, .mv (.t 38)⟩,
    ⟨(some 3), 48, none, .mv (.c (.bool true))⟩])
  .ret)))))
theorem fits74 : fits Tryz.prog false Tryz.f74 1 39 [(2, none), (3, none)] = some c74.er := by kernel_rfl
def isNl (b : UInt8) : Bool := b == 10
def isBn (b : UInt8) : Bool := b == 32 || b == 10
theorem u8_eq {x : UInt8} {n : Nat} (hn : n < 256) : ((x.toNat : Int) == (n : Int)) = (x == UInt8.ofNat n) := by
  have h1 : (UInt8.ofNat n).toNat = n := by rw [UInt8.toNat_ofNat']; omega
  by_cases h : x = UInt8.ofNat n
  · subst h; rw [h1]; simp
  · have h2 : x.toNat ≠ n := fun e => h (UInt8.toNat_inj.1 (by rw [h1]; exact e))
    rw [beq_eq_false_iff_ne.2 h]
    simp only [beq_eq_false_iff_ne, ne_eq]; omega
section
variable {p : UInt8 → Bool} {s : List UInt8} {a i : Nat}
theorem seg_app (h : a ≤ i) (hi : i ≤ s.length) : s.drop a = (s.take i).drop a ++ s.drop i := by
  have e : s = s.take i ++ s.drop i := (List.take_append_drop i s).symm
  have : s.drop a = (s.take i ++ s.drop i).drop a := by rw [← e]
  rw [this, List.drop_append_of_le_length (by rw [List.length_take]; omega)]
theorem seg_no (hno : ∀ k, a ≤ k → k < i → p (s.getD k 0) = false) (hi : i ≤ s.length) : ∀ x ∈ (s.take i).drop a, p x = false := fun x hx => by
  obtain ⟨k, hk⟩ := List.getElem?_of_mem hx
  rw [List.getElem?_drop, List.getElem?_take] at hk
  split at hk
  · have := hno (a + k) (by omega) (by omega)
    simpa [List.getD, hk] using this
  · cases hk
theorem seg_sep (h : a ≤ i) (hi : i < s.length) (hno : ∀ k, a ≤ k → k < i → p (s.getD k 0) = false) (hp : p (s.getD i 0) = true) : splitP p (s.drop a) = (s.take i).drop a :: splitP p (s.drop (i + 1)) := by
  have hd : s.drop i = s.getD i 0 :: s.drop (i + 1) := by
    rw [List.drop_eq_getElem_cons hi]; simp [List.getD, hi]
  rw [seg_app h (Nat.le_of_lt hi), hd, splitP_sep p _ _ _ (seg_no hno (Nat.le_of_lt hi)) hp]
theorem seg_end (h : a ≤ s.length) (hno : ∀ k, a ≤ k → k < s.length → p (s.getD k 0) = false) : splitP p (s.drop a) = [(s.take s.length).drop a] := by
  have := seg_no hno (Nat.le_refl _)
  rw [List.take_length] at this ⊢
  exact splitP_none p _ this
end
theorem pP_mem (p : UInt8 → Bool) : ∀ (s : List UInt8), ∀ x ∈ splitP p s, ∀ b ∈ x, p b = false ∧ b ∈ s
  | [], x, hx, b, hb => by simp [splitP] at hx; subst hx; simp at hb
  | y :: ys, x, hx, b, hb => by
    simp only [splitP] at hx
    split at hx
    · rcases List.mem_cons.1 hx with rfl | hx
      · simp at hb
      · exact ⟨(pP_mem p ys x hx b hb).1, List.mem_cons_of_mem _ (pP_mem p ys x hx b hb).2⟩
    · rename_i hy
      split at hx
      · simp only [List.mem_singleton] at hx; subst hx
        simp only [List.mem_singleton] at hb; subst hb
        exact ⟨by simpa using hy, List.mem_cons_self ..⟩
      · rename_i h t he
        rcases List.mem_cons.1 hx with rfl | hx
        · rcases List.mem_cons.1 hb with rfl | hb
          · exact ⟨by simpa using hy, List.mem_cons_self ..⟩
          · have := pP_mem p ys h (by rw [he]; exact List.mem_cons_self ..) b hb
            exact ⟨this.1, List.mem_cons_of_mem _ this.2⟩
        · have := pP_mem p ys x (by rw [he]; exact List.mem_cons_of_mem _ hx) b hb
          exact ⟨this.1, List.mem_cons_of_mem _ this.2⟩
theorem splitP_congr {p q : UInt8 → Bool} : ∀ (s : List UInt8), (∀ b ∈ s, p b = q b) → splitP p s = splitP q s
  | [], _ => rfl
  | x :: xs, h => by
    simp only [splitP, h x (List.mem_cons_self ..), splitP_congr xs fun b hb => h b (List.mem_cons_of_mem _ hb)]
structure CutS where
  i : Nat
  a : Nat
  out : List (List UInt8)
structure CInv (p : UInt8 → Bool) (F : List (List UInt8) → List (List UInt8)) (s : List UInt8) (x : CutS) : Prop where
  le : x.a ≤ x.i ∧ x.i ≤ s.length + 1
  ln : x.out.length ≤ x.i
  no : ∀ k, x.a ≤ k → k < x.i → k < s.length → p (s.getD k 0) = false
  rest : x.i ≤ s.length → x.out ++ F (splitP p (s.drop x.a)) = F (splitP p s)
  fin : s.length < x.i → x.out = F (splitP p s)
theorem CInv.start (p : UInt8 → Bool) (F : List (List UInt8) → List (List UInt8)) (s : List UInt8) : CInv p F s ⟨0, 0, []⟩ :=
  ⟨⟨Nat.le_refl _, Nat.zero_le _⟩, Nat.le_refl _, fun k h1 h2 => absurd h2 (Nat.not_lt_zero _), fun _ => rfl, fun h => absurd h (Nat.not_lt_zero _)⟩
theorem CInv.skip {p : UInt8 → Bool} {F : List (List UInt8) → List (List UInt8)} {s : List UInt8} {x : CutS} (h : CInv p F s x) (hi : x.i < s.length) (hp : p (s.getD x.i 0) = false) : CInv p F s ⟨x.i + 1, x.a, x.out⟩ := by
  obtain ⟨⟨a1, a2⟩, b, c, d, e⟩ := h
  refine ⟨⟨by dsimp only; omega, by dsimp only; omega⟩, by dsimp only; omega, fun k h1 h2 h3 => ?_, fun _ => d (by omega), fun h => absurd h (by dsimp only; omega)⟩
  dsimp only at h1 h2
  by_cases hk : k = x.i
  · rw [hk]; exact hp
  · exact c k h1 (by omega) h3
theorem CInv.cut {p : UInt8 → Bool} {F : List (List UInt8) → List (List UInt8)} {s : List UInt8} {x : CutS} {out' : List (List UInt8)} (h : CInv p F s x) (hi : x.i ≤ s.length) (hp : x.i = s.length ∨ p (s.getD x.i 0) = true)
    (ho : ∀ L, x.out ++ F ((s.take x.i).drop x.a :: L) = out' ++ F L) (hF : F [] = []) (hl : out'.length ≤ x.out.length + 1) : CInv p F s ⟨x.i + 1, x.i + 1, out'⟩ := by
  obtain ⟨⟨a1, a2⟩, b, c, d, e⟩ := h
  refine ⟨⟨Nat.le_refl _, by dsimp only; omega⟩, by dsimp only; omega, fun k h1 h2 h3 => by dsimp only at h1 h2; omega, fun h => ?_, fun h => ?_⟩
  · dsimp only at h ⊢
    have hlt : x.i < s.length := by omega
    rw [← d (by omega), seg_sep a1 hlt (fun k h1 h2 => c k h1 h2 (by omega)) (hp.resolve_left (by omega)), ho]
  · dsimp only at h ⊢
    have hE : x.i = s.length := by omega
    have h2 := d (by omega)
    rw [seg_end (by omega) (fun k h1 h3 => c k h1 (by omega) h3), ← hE, ho, hF, List.append_nil] at h2
    exact h2
set_option maxRecDepth 100000 in
set_option maxHeartbeats 8000000 in
theorem call39 (s : List UInt8) (hs : s.length ≤ 65536) : PureCall Tryz.prog 39 [.str s] [] ⟨.os 1000000000, [], [.row 0 9 1 (splitP isNl s).length (fl eStr (splitP isNl s))]⟩ := by
  refine pure_call mix Tryz.func39 fits39 rfl ?_
  conv => whnf
  refine ⟨trivial, ?_⟩
  refine LSem.adopt 3 1000000 9 1 1 rfl rfl ?_
  refine LSem.loop (n := 32) mix (α := CutS) (CInv isNl id s)
    (fun x => [(0, .str s), (3, .os 1000000), (4, .int .i64 x.a), (5, .int .i64 x.i)])
    (fun x => [(1000000, .row 0 9 1 x.out.length (fl eStr x.out))]) (fun x => s.length + 1 - x.i) ⟨0, 0, []⟩ ?_ ?_ ?_
  · exact .start _ _ _
  · refine ⟨rfl, rfl, ?_, ?_⟩
    all_goals repeat' (first | exact True.intro | refine leF_cons rfl ?_ ?_ | refine leS_cons rfl ?_ ?_ | (show PLe _ _ _ _; conv => whnf) | (show SLe _ _ _ _; conv => whnf) | (show PLeL _ _ _ _; conv => whnf) | apply And.intro | rfl | exact Nat.le_refl _ | exact fun _ _ => rfl | exact rowEq0 _ _)
  · intro x hx
    obtain ⟨i, a, out⟩ := x
    have hle : a ≤ i ∧ i ≤ s.length + 1 := hx.le
    have hln : out.length ≤ i := hx.ln
    have hj : ((i : Int)).toNat = i := by omega
    have hja : ((a : Int)).toNat = a := by omega
    conv => whnf
    refine ⟨trivial, fun hc => ?_, fun hc => ?_⟩
    · replace hc := of_decide_eq_true hc
      have hlt : i ≤ s.length := by
        have h : (i : Int) ≤ s.length := hc
        omega
      conv => whnf
      dsimp only
      rw [hj, show (((s.getD i 0).toNat : Int) == 10) = isNl (s.getD i 0) from u8_eq (n := 10) (by decide)]
      refine ⟨?_, fun hc2 => ?_, fun hc2 => ?_⟩
      · exact g0
      · have hp : i = s.length ∨ isNl (s.getD i 0) = true := by
          simp only [bp] at hc2
          rcases hc2 with h | h
          · exact .inl (by omega)
          · exact .inr h.2
        have hcut := hx.cut (out' := out ++ [(s.take i).drop a]) hlt hp (fun L => by simp) rfl (by simp)
        have q := fl_push eStr out ((s.take i).drop a)
        have hxl : (out ++ [(s.take i).drop a]).length = out.length + 1 := by simp
        conv => whnf
        dsimp only
        rw [hja, hj]
        refine ⟨?_, ⟨i + 1, i + 1, out ++ [(s.take i).drop a]⟩, hcut, ?_, rfl, rfl, ?_, ?_⟩
        · exact g0
        · dsimp only; omega
        all_goals repeat' (first | exact True.intro | refine leF_cons rfl ?_ ?_ | refine leS_cons rfl ?_ ?_ | (show PLe _ _ _ _; conv => whnf) | (show SLe _ _ _ _; conv => whnf) | (show PLeL _ _ _ _; conv => whnf) | apply And.intro | rfl | exact Nat.le_refl _ | exact fun _ _ => rfl | exact rowEq0 _ _)
        all_goals first | exact q | (dsimp only; rw [hxl]; rfl) | (dsimp only; rw [hxl]) | (dsimp only; omega) | skip
      · have hp : i ≠ s.length ∧ isNl (s.getD i 0) = false := by
          simp only [bp] at hc2
          exact ⟨by omega, hc2.2⟩
        have hsk := hx.skip (by dsimp only; omega) hp.2
        conv => whnf
        refine ⟨?_, ⟨i + 1, a, out⟩, hsk, ?_, rfl, rfl, ?_, ?_⟩
        · exact g0
        · dsimp only; omega
        all_goals repeat' (first | exact True.intro | refine leF_cons rfl ?_ ?_ | refine leS_cons rfl ?_ ?_ | (show PLe _ _ _ _; conv => whnf) | (show SLe _ _ _ _; conv => whnf) | (show PLeL _ _ _ _; conv => whnf) | apply And.intro | rfl | exact Nat.le_refl _ | exact fun _ _ => rfl | exact rowEq0 _ _)
        all_goals first | (dsimp only; omega) | skip
    · replace hc := of_decide_eq_false hc
      have hk : s.length < i := by
        have h : ¬ (i : Int) ≤ s.length := hc
        omega
      have hf : out = splitP isNl s := hx.fin hk
      rw [← hf]
      conv => whnf
      refine ⟨?_, [1000000], ?_⟩
      · exact g0
      conv => whnf
      refine ⟨rfl, ?_, trivial, ?_⟩
      all_goals repeat' (first | exact True.intro | refine leF_cons rfl ?_ ?_ | refine leS_cons rfl ?_ ?_ | (show PLe _ _ _ _; conv => whnf) | (show SLe _ _ _ _; conv => whnf) | (show PLeL _ _ _ _; conv => whnf) | apply And.intro | rfl | exact Nat.le_refl _ | exact fun _ _ => rfl | exact rowEq0 _ _)
def neF (L : List (List UInt8)) : List (List UInt8) := L.filter fun x => !x.isEmpty
set_option maxRecDepth 100000 in
set_option maxHeartbeats 8000000 in
theorem call33 (s : List UInt8) (hs : s.length ≤ 65536) : PureCall Tryz.prog 33 [.str s] [] ⟨.os 1000000000, [], [.row 0 9 1 (wordsB isBn s).length (fl eStr (wordsB isBn s))]⟩ := by
  refine pure_call mix Tryz.func33 fits33 rfl ?_
  conv => whnf
  refine ⟨trivial, ?_⟩
  refine LSem.adopt 3 1000000 9 1 1 rfl rfl ?_
  refine LSem.loop (n := 41) mix (α := CutS) (CInv isBn neF s)
    (fun x => [(0, .str s), (3, .os 1000000), (4, .int .i64 x.a), (5, .int .i64 x.i)])
    (fun x => [(1000000, .row 0 9 1 x.out.length (fl eStr x.out))]) (fun x => s.length + 1 - x.i) ⟨0, 0, []⟩ ?_ ?_ ?_
  · exact .start _ _ _
  · refine ⟨rfl, rfl, ?_, ?_⟩
    all_goals repeat' (first | exact True.intro | refine leF_cons rfl ?_ ?_ | refine leS_cons rfl ?_ ?_ | (show PLe _ _ _ _; conv => whnf) | (show SLe _ _ _ _; conv => whnf) | (show PLeL _ _ _ _; conv => whnf) | apply And.intro | rfl | exact Nat.le_refl _ | exact fun _ _ => rfl | exact rowEq0 _ _)
  · intro x hx
    obtain ⟨i, a, out⟩ := x
    have hle : a ≤ i ∧ i ≤ s.length + 1 := hx.le
    have hln : out.length ≤ i := hx.ln
    have hj : ((i : Int)).toNat = i := by omega
    have hja : ((a : Int)).toNat = a := by omega
    conv => whnf
    refine ⟨trivial, fun hc => ?_, fun hc => ?_⟩
    · replace hc := of_decide_eq_true hc
      have hlt : i ≤ s.length := by
        have h : (i : Int) ≤ s.length := hc
        omega
      conv => whnf
      dsimp only
      rw [hj, show (((s.getD i 0).toNat : Int) == 10) = (s.getD i 0 == 10) from u8_eq (n := 10) (by decide), show (((s.getD i 0).toNat : Int) == 32) = (s.getD i 0 == 32) from u8_eq (n := 32) (by decide)]
      refine ⟨?_, fun hc2 => ?_, fun hc2 => ?_⟩
      · (try conv => whnf)
        have hlt2 : ((i : Int) == (s.length : Int)) = false → i < s.length := fun h => by simp at h; omega
        generalize ((i : Int) == (s.length : Int)) = B at hlt2 ⊢
        cases B
        · have := hlt2 rfl
          cases hq2 : (s.getD i 0 == 32) <;> simp [this]
        · simp
      · have hp : i = s.length ∨ isBn (s.getD i 0) = true := by
          by_cases he : i = s.length
          · exact .inl he
          · right
            have h1 : ((i : Int) == (s.length : Int)) = false := by simp; omega
            rw [h1] at hc2
            unfold isBn
            cases hq : (s.getD i 0 == 32) <;> cases hq2 : (s.getD i 0 == 10) <;> simp_all
        have hpl : ((s.take i).drop a).length = i - a := by rw [List.length_drop, List.length_take]; omega
        conv => whnf
        refine ⟨?_, fun hgt => ?_, fun hgt => ?_⟩
        · exact g0
        · replace hgt := of_decide_eq_true hgt
          have hgt2 : a < i := by
            have h : (a : Int) < i := hgt
            omega
          have hne : ((s.take i).drop a).isEmpty = false := by
            cases hE : (s.take i).drop a with
            | nil => rw [hE] at hpl; simp at hpl; omega
            | cons _ _ => rfl
          have hcut := hx.cut (out' := out ++ [(s.take i).drop a]) hlt hp (fun L => by
            show out ++ List.filter _ _ = _
            rw [List.filter_cons_of_pos (by simp [hne])]; simp [neF]) rfl (by simp)
          have q := fl_push eStr out ((s.take i).drop a)
          have hxl : (out ++ [(s.take i).drop a]).length = out.length + 1 := by simp
          conv => whnf
          dsimp only
          rw [hja, hj]
          refine ⟨?_, ⟨i + 1, i + 1, out ++ [(s.take i).drop a]⟩, hcut, ?_, rfl, rfl, ?_, ?_⟩
          · exact g0
          · dsimp only; omega
          all_goals repeat' (first | exact True.intro | refine leF_cons rfl ?_ ?_ | refine leS_cons rfl ?_ ?_ | (show PLe _ _ _ _; conv => whnf) | (show SLe _ _ _ _; conv => whnf) | (show PLeL _ _ _ _; conv => whnf) | apply And.intro | rfl | exact Nat.le_refl _ | exact fun _ _ => rfl | exact rowEq0 _ _)
          all_goals first | exact q | (dsimp only; rw [hxl]; rfl) | (dsimp only; rw [hxl]) | (dsimp only; omega) | skip
        · replace hgt := of_decide_eq_false hgt
          have hgt2 : a = i := by
            have h : ¬ (a : Int) < i := hgt
            omega
          have hE : (s.take i).drop a = [] := List.length_eq_zero_iff.1 (by omega)
          have hcut := hx.cut (out' := out) hlt hp (fun L => by
            rw [hE]
            show out ++ List.filter _ _ = _
            rw [List.filter_cons_of_neg (by simp)]; rfl) rfl (by simp)
          conv => whnf
          refine ⟨?_, ⟨i + 1, i + 1, out⟩, hcut, ?_, rfl, rfl, ?_, ?_⟩
          · exact g0
          · dsimp only; omega
          all_goals repeat' (first | exact True.intro | refine leF_cons rfl ?_ ?_ | refine leS_cons rfl ?_ ?_ | (show PLe _ _ _ _; conv => whnf) | (show SLe _ _ _ _; conv => whnf) | (show PLeL _ _ _ _; conv => whnf) | apply And.intro | rfl | exact Nat.le_refl _ | exact fun _ _ => rfl | exact rowEq0 _ _)
          all_goals first | (dsimp only; omega) | skip
      · have hp : i ≠ s.length ∧ isBn (s.getD i 0) = false := by
          by_cases he : i = s.length
          · have h1 : ((i : Int) == (s.length : Int)) = true := by simp; omega
            rw [h1] at hc2; cases hc2
          · refine ⟨he, ?_⟩
            have h1 : ((i : Int) == (s.length : Int)) = false := by simp; omega
            rw [h1] at hc2
            unfold isBn
            cases hq : (s.getD i 0 == 32) <;> cases hq2 : (s.getD i 0 == 10) <;> simp_all
        have hsk := hx.skip (by dsimp only; omega) hp.2
        conv => whnf
        refine ⟨?_, ⟨i + 1, a, out⟩, hsk, ?_, rfl, rfl, ?_, ?_⟩
        · exact g0
        · dsimp only; omega
        all_goals repeat' (first | exact True.intro | refine leF_cons rfl ?_ ?_ | refine leS_cons rfl ?_ ?_ | (show PLe _ _ _ _; conv => whnf) | (show SLe _ _ _ _; conv => whnf) | (show PLeL _ _ _ _; conv => whnf) | apply And.intro | rfl | exact Nat.le_refl _ | exact fun _ _ => rfl | exact rowEq0 _ _)
        all_goals first | (dsimp only; omega) | skip
    · replace hc := of_decide_eq_false hc
      have hk : s.length < i := by
        have h : ¬ (i : Int) ≤ s.length := hc
        omega
      have hf : out = wordsB isBn s := hx.fin hk
      rw [← hf]
      conv => whnf
      refine ⟨?_, [1000000], ?_⟩
      · exact g0
      conv => whnf
      refine ⟨rfl, ?_, trivial, ?_⟩
      all_goals repeat' (first | exact True.intro | refine leF_cons rfl ?_ ?_ | refine leS_cons rfl ?_ ?_ | (show PLe _ _ _ _; conv => whnf) | (show SLe _ _ _ _; conv => whnf) | (show PLeL _ _ _ _; conv => whnf) | apply And.intro | rfl | exact Nat.le_refl _ | exact fun _ _ => rfl | exact rowEq0 _ _)
theorem digs_drop {s : List UInt8} {i : Nat} (a : Int) (h : i < s.length) : digs a (s.drop i) = if (s.getD i 0).toNat < 48 ∨ 57 < (s.getD i 0).toNat then none else digs (10 * a + (((s.getD i 0).toNat : Int) - 48)) (s.drop (i + 1)) := by
  rw [List.drop_eq_getElem_cons h]
  have : s.getD i 0 = s[i] := by simp [List.getD, h]
  rw [this]; rfl
theorem pow10_le (i : Nat) (h : i ≤ 10) : (10 : Int) ^ i ≤ 10000000000 := (show ∀ i : Nat, i < 11 → (10 : Int) ^ i ≤ 10000000000 by decide) i (by omega)
theorem u8min : IntKind.u8.min = 0 := by decide
theorem u8max : IntKind.u8.max = 255 := by decide
set_option maxRecDepth 100000 in
set_option maxHeartbeats 8000000 in
theorem call74 (s : List UInt8) (hs : s.length ≤ 4611686018427387904) : PureCall Tryz.prog 74 [.str s] [] ⟨.tup [.int .i64 ((numF s).getD 0), .bool (numF s).isSome], [], []⟩ := by
  refine pure_call mix Tryz.func74 fits74 rfl ?_
  conv => whnf
  refine ⟨?_, fun hc => ?_, fun hc => ?_⟩
  · exact g0
  · simp only [bp] at hc
    have hn : numF s = none := by unfold numF; rw [if_pos (by omega)]
    rw [hn]
    conv => whnf
    refine ⟨?_, [], ?_⟩
    · exact g0
    conv => whnf
    refine ⟨rfl, ?_, trivial, trivial⟩
    all_goals repeat' (first | exact True.intro | refine leF_cons rfl ?_ ?_ | refine leS_cons rfl ?_ ?_ | (show PLe _ _ _ _; conv => whnf) | (show SLe _ _ _ _; conv => whnf) | (show PLeL _ _ _ _; conv => whnf) | apply And.intro | rfl | exact Nat.le_refl _ | exact fun _ _ => rfl | exact rowEq0 _ _)
  simp only [bp] at hc
  have hn : numF s = digs 0 s := by unfold numF; rw [if_neg (by omega)]
  have hl : 1 ≤ s.length ∧ s.length ≤ 10 := by omega
  rw [hn]
  clear hn hc hs
  conv => whnf
  refine ⟨trivial, ?_⟩
  refine LSem.loop (n := 39) mix (α := Nat × Int) (fun x => x.1 ≤ s.length ∧ digs x.2 (s.drop x.1) = digs 0 s ∧ 0 ≤ x.2 ∧ x.2 < (10 : Int) ^ x.1)
    (fun x => [(0, .str s), (4, .int .i64 x.2), (5, .int .i64 x.1)])
    (fun x => []) (fun x => s.length - x.1) (0, 0) ?_ ?_ ?_
  · exact ⟨Nat.zero_le _, rfl, Int.le_refl _, by decide⟩
  · refine ⟨rfl, rfl, ?_, ?_⟩
    all_goals repeat' (first | exact True.intro | refine leF_cons rfl ?_ ?_ | refine leS_cons rfl ?_ ?_ | (show PLe _ _ _ _; conv => whnf) | (show SLe _ _ _ _; conv => whnf) | (show PLeL _ _ _ _; conv => whnf) | apply And.intro | rfl | exact Nat.le_refl _ | exact fun _ _ => rfl | exact rowEq0 _ _)
  · intro x hx
    obtain ⟨i, a⟩ := x
    obtain ⟨h1, h2, h3, h4⟩ := hx
    dsimp only at h1 h2 h3 h4
    have hj : ((i : Int)).toNat = i := by omega
    have hpow := pow10_le i (by omega)
    have hpow2 : (10 : Int) ^ (i + 1) = 10 * 10 ^ i := by rw [Int.pow_succ, Int.mul_comm]
    conv => whnf
    refine ⟨trivial, fun hc => ?_, fun hc => ?_⟩
    · replace hc := of_decide_eq_true hc
      have hlt : i < s.length := by
        have h : (i : Int) < s.length := hc
        omega
      have hd := digs_drop a hlt
      have hb : (s.getD i 0).toNat < 256 := UInt8.toNat_lt _
      conv => whnf
      dsimp only
      rw [hj]
      refine ⟨?_, fun hc2 => ?_, fun hc2 => ?_⟩
      · exact g0
      · simp only [bp] at hc2
        have hd0 : digs 0 s = none := by rw [← h2, hd, if_pos (by omega)]
        rw [hd0]
        conv => whnf
        refine ⟨?_, [], ?_⟩
        · exact g0
        conv => whnf
        refine ⟨rfl, ?_, trivial, trivial⟩
        all_goals repeat' (first | exact True.intro | refine leF_cons rfl ?_ ?_ | refine leS_cons rfl ?_ ?_ | (show PLe _ _ _ _; conv => whnf) | (show SLe _ _ _ _; conv => whnf) | (show PLeL _ _ _ _; conv => whnf) | apply And.intro | rfl | exact Nat.le_refl _ | exact fun _ _ => rfl | exact rowEq0 _ _)
      · simp only [bp] at hc2
        rw [if_neg (by omega)] at hd
        conv => whnf
        refine ⟨?_, (i + 1, 10 * a + (((s.getD i 0).toNat : Int) - 48)), ⟨hlt, by rw [← hd]; exact h2, ?_, ?_⟩, ?_, rfl, rfl, ?_, ?_⟩
        · (try conv => whnf)
          try dsimp only
          rw [hj]
          (repeat' (first | exact True.intro | exact fun _ h => h | refine inR64_of ?_ ?_ | apply And.intro)) <;> (first | omega | (rw [u8min]; omega) | (rw [u8max]; omega))
        · dsimp only; omega
        · dsimp only; rw [hpow2]; omega
        · dsimp only; omega
        all_goals repeat' (first | exact True.intro | refine leF_cons rfl ?_ ?_ | refine leS_cons rfl ?_ ?_ | (show PLe _ _ _ _; conv => whnf) | (show SLe _ _ _ _; conv => whnf) | (show PLeL _ _ _ _; conv => whnf) | apply And.intro | rfl | exact Nat.le_refl _ | exact fun _ _ => rfl | exact rowEq0 _ _)
        all_goals first | omega | (dsimp only; rw [hj]; omega) | (dsimp only; rw [hj]; done) | skip
    · replace hc := of_decide_eq_false hc
      have hk : i = s.length := by
        have h : ¬ (i : Int) < s.length := hc
        omega
      subst hk
      rw [← h2, List.drop_length]
      conv => whnf
      refine ⟨?_, [], ?_⟩
      · exact g0
      conv => whnf
      refine ⟨rfl, ?_, trivial, trivial⟩
      all_goals repeat' (first | exact True.intro | refine leF_cons rfl ?_ ?_ | refine leS_cons rfl ?_ ?_ | (show PLe _ _ _ _; conv => whnf) | (show SLe _ _ _ _; conv => whnf) | (show PLeL _ _ _ _; conv => whnf) | apply And.intro | rfl | exact Nat.le_refl _ | exact fun _ _ => rfl | exact rowEq0 _ _)
end Pv
end Go.Proofs.YtknidebojogodaaGreatDoor
/- LAW 13, THE WALKS: words of kinds. -/
set_option linter.unusedSimpArgs false
set_option linter.unusedVariables false
namespace Go.Proofs.YtknidebojogodaaGreatDoor
namespace Pv
def c13 : C := (.seq (.reg [⟨(some 2), 32, none, .mv (.c (.str []))⟩])
  (.seq (.seq (.reg [⟨(some 3), 48, none, .mv (.t 0)⟩,
    ⟨(some 4), 64, none, .bi false .lss (.t 3) (.c (.int .i64 0))⟩,
    ⟨(some 5), 80, none, .mv (.t 4)⟩,
    ⟨(some 6), 96, (some (5, false)), .mv (.t 0)⟩,
    ⟨(some 7), 112, (some (5, false)), .bi false .geq (.t 6) (.c (.int .i64 5))⟩,
    ⟨(some 8), 128, none, .pick (.t 5) (.c (.bool true)) (.t 7)⟩])
  (.cond (.t 8) (.seq (.reg [⟨(some 2), 32, none, .mv (.c (.str []))⟩])
  .ret) .skip))
  (.seq (.reg [⟨(some 9), 144, none, .mv (.t 0)⟩,
    ⟨(some 10), 160, none, .iaa 5 1 (.c (.rp 1 [(.str []), (.str [108, 101, 97, 115, 116]), (.str [109, 111, 115, 116]), (.str [117, 112]), (.str [100, 111, 119, 110])])) (.t 9)⟩,
    ⟨(some 11), 176, none, .ld 1 false (.t 10)⟩,
    ⟨(some 2), 32, none, .mv (.t 11)⟩])
  .ret)))
theorem fits13 : fits Tryz.prog false Tryz.f13 1 12 [(2, none)] = some c13.er := by kernel_rfl
theorem kind_cases {k : Int} (h : 0 ≤ k ∧ k < 5) : k = 0 ∨ k = 1 ∨ k = 2 ∨ k = 3 ∨ k = 4 := by omega
theorem kindW_out {k : Int} (h : k < 1 ∨ 4 < k) : kindW k = [] := by
  unfold kindW
  rw [if_neg (by omega), if_neg (by omega), if_neg (by omega), if_neg (by omega)]
theorem call13 (k : Int) : PureCall Tryz.prog 13 [.int .i64 k] [] ⟨.str (kindW k), [], []⟩ := by
  refine pure_call mix Tryz.func13 fits13 rfl ?_
  conv => whnf
  refine ⟨?_, fun hc => ?_, fun hc => ?_⟩
  · exact g0
  · simp only [bp] at hc
    rw [kindW_out (by omega)]
    conv => whnf
    exact ret
  · simp only [bp] at hc
    rcases kind_cases (k := k) (by omega) with rfl | rfl | rfl | rfl | rfl
    · rw [show kindW 0 = [] from rfl]
      conv => whnf
      exact ret
    · rw [show kindW 1 = wLeast from rfl]
      conv => whnf
      exact ret
    · rw [show kindW 2 = wMost from rfl]
      conv => whnf
      exact ret
    · rw [show kindW 3 = wUp from rfl]
      conv => whnf
      exact ret
    · rw [show kindW 4 = wDown from rfl]
      conv => whnf
      exact ret
end Pv
end Go.Proofs.YtknidebojogodaaGreatDoor
/- LAW 13, THE WALKS: words of kinds; a line's words as a condition, second form. -/
set_option linter.unusedSimpArgs false
set_option linter.unusedVariables false
namespace Go.Proofs.YtknidebojogodaaGreatDoor
namespace Pv
def c14 : C := (.seq (.reg [⟨(some 2), 32, none, .mv (.c (.str []))⟩])
  (.seq (.seq (.reg [⟨(some 3), 48, none, .mv (.t 0)⟩,
    ⟨(some 4), 64, none, .bi false .lss (.t 3) (.c (.int .i64 1))⟩,
    ⟨(some 5), 80, none, .mv (.t 4)⟩,
    ⟨(some 6), 96, (some (5, false)), .mv (.t 0)⟩,
    ⟨(some 7), 112, (some (5, false)), .bi false .gtr (.t 6) (.c (.int .i64 4))⟩,
    ⟨(some 8), 128, none, .pick (.t 5) (.c (.bool true)) (.t 7)⟩])
  (.cond (.t 8) (.seq (.reg [⟨(some 2), 32, none, .mv (.c (.str []))⟩])
  .ret) .skip))
  (.seq (.reg [⟨(some 9), 144, none, .bs 9 1 [(.c (.str [108, 101, 97, 115, 116])), (.c (.str [109, 111, 115, 116])), (.c (.str [117, 112])), (.c (.str [100, 111, 119, 110]))]⟩,
    ⟨(some 10), 160, none, .mv (.t 0)⟩,
    ⟨(some 11), 176, none, .bi false .sub (.t 10) (.c (.int .i64 1))⟩,
    ⟨(some 12), 192, none, .ia 1 (.t 9) (.t 11)⟩,
    ⟨(some 13), 208, none, .ld 1 false (.t 12)⟩,
    ⟨(some 2), 32, none, .mv (.t 13)⟩])
  .ret)))
theorem fits14 : fits Tryz.prog false Tryz.f14 1 14 [(2, none)] = some c14.er := by kernel_rfl
def c12 : C := (.seq (.reg [⟨(some 2), 32, none, .mv (.c (.nil 1))⟩])
  (.seq (.reg [⟨(some 3), 48, none, .mv (.t 0)⟩,
    ⟨(some 4), 64, none, .call (.c (.fn (.func 33) [] [])) [(.t 3)]⟩,
    ⟨(some 2), 32, none, .mv (.t 4)⟩])
  .ret))
theorem fits12 : fits Tryz.prog false Tryz.f12 1 5 [(2, none)] = some c12.er := by kernel_rfl
def c58L1 : C := (.seq (.reg [⟨(some 20), 320, none, .bi false .lss (.t 19) (.t 18)⟩])
  (.seq (.cond (.t 20) .skip (.exit 0))
  (.seq (.block 1 (.seq (.reg [⟨(some 21), 336, none, .ia 1 (.t 17) (.t 19)⟩,
    ⟨(some 22), 352, none, .ld 1 false (.t 21)⟩,
    ⟨(some 8), 128, none, .mv (.t 22)⟩])
  (.seq (.reg [⟨(some 24), 384, none, .mv (.t 8)⟩,
    ⟨(some 25), 400, none, .call (.c (.fn (.func 74) [] [])) [(.t 24)]⟩,
    ⟨(some 23), 368, none, .mv (.t 25)⟩,
    ⟨(some 26), 416, none, .ex (.t 23) 0⟩,
    ⟨(some 27), 432, none, .ex (.t 23) 1⟩,
    ⟨(some 9), 144, none, .mv (.t 26)⟩,
    ⟨(some 10), 160, none, .mv (.t 27)⟩])
  (.seq (.seq (.reg [⟨(some 28), 448, none, .mv (.t 10)⟩,
    ⟨(some 29), 464, none, .un false .not (.t 28)⟩])
  (.cond (.t 29) (.seq (.reg [⟨(some 4), 64, none, .mv (.c (.nil 1))⟩,
    ⟨(some 5), 80, none, .mv (.c (.bool false))⟩])
  .ret) .skip))
  (.reg [⟨(some 30), 480, none, .mv (.t 6)⟩,
    ⟨(some 31), 496, none, .mv (.t 9)⟩,
    ⟨(some 32), 512, none, .bs 3 1 [(.t 31)]⟩,
    ⟨(some 33), 528, none, .app 3 1 8 (.t 30) (.t 32)⟩,
    ⟨(some 6), 96, none, .mv (.t 33)⟩])))))
  (.reg [⟨(some 34), 544, none, .bi false .add (.t 19) (.c (.int .i64 1))⟩,
    ⟨(some 19), 304, none, .mv (.t 34)⟩]))))
def c58 : C := (.seq (.reg [⟨(some 4), 64, none, .mv (.c (.nil 1))⟩,
    ⟨(some 5), 80, none, .mv (.c (.bool false))⟩])
  (.seq (.seq (.reg [⟨(some 11), 176, none, .mv (.t 0)⟩,
    ⟨(some 12), 192, none, .len (.t 11)⟩,
    ⟨(some 13), 208, none, .mv (.t 1)⟩,
    ⟨(some 14), 224, none, .bi false .lss (.t 12) (.t 13)⟩])
  (.cond (.t 14) (.seq (.reg [⟨(some 4), 64, none, .mv (.c (.nil 1))⟩,
    ⟨(some 5), 80, none, .mv (.c (.bool false))⟩])
  .ret) .skip))
  (.seq (.reg [⟨(some 6), 96, none, .mv (.c (.nil 1))⟩])
  (.seq (.seq (.reg [⟨(some 15), 240, none, .mv (.t 0)⟩,
    ⟨(some 16), 256, none, .mv (.t 1)⟩,
    ⟨(some 17), 272, none, .slc 1 (.t 15) none (some (.t 16))⟩,
    ⟨(some 18), 288, none, .len (.t 17)⟩,
    ⟨(some 19), 304, none, .mv (.c (.int .i64 0))⟩])
  (.block 0 (.loop c58L1)))
  (.seq (.reg [⟨(some 35), 560, none, .mv (.t 6)⟩,
    ⟨(some 4), 64, none, .mv (.t 35)⟩,
    ⟨(some 5), 80, none, .mv (.c (.bool true))⟩])
  .ret)))))
theorem fits58 : fits Tryz.prog false Tryz.f58 2 36 [(4, none), (5, none)] = some c58.er := by kernel_rfl
def c40 : C := (.seq (.reg [⟨(some 2), 32, none, .mv (.c (.bool false))⟩])
  (.seq (.reg [⟨(some 3), 48, none, .mv (.t 0)⟩,
    ⟨(some 4), 64, none, .len (.t 3)⟩,
    ⟨(some 5), 80, none, .bi false .gtr (.t 4) (.c (.int .i64 0))⟩,
    ⟨(some 6), 96, none, .mv (.t 5)⟩,
    ⟨(some 7), 112, (some (6, true)), .mv (.t 0)⟩,
    ⟨(some 8), 128, (some (6, true)), .ia 1 (.t 7) (.c (.int .i64 0))⟩,
    ⟨(some 9), 144, (some (6, true)), .ld 1 false (.t 8)⟩,
    ⟨(some 10), 160, (some (6, true)), .ixs (.t 9) (.c (.int .i64 0))⟩,
    ⟨(some 11), 176, (some (6, true)), .bi false .neq (.t 10) (.c (.int .u8 35))⟩,
    ⟨(some 12), 192, none, .pick (.t 6) (.t 11) (.c (.bool false))⟩,
    ⟨(some 2), 32, none, .mv (.t 12)⟩])
  .ret))
theorem fits40 : fits Tryz.prog false Tryz.f40 1 13 [(2, none)] = some c40.er := by kernel_rfl
theorem call14 (k : Int) : PureCall Tryz.prog 14 [.int .i64 k] [] ⟨.str (kindW k), [], []⟩ := by
  refine pure_call mix Tryz.func14 fits14 rfl ?_
  conv => whnf
  refine ⟨?_, fun hc => ?_, fun hc => ?_⟩
  · exact g0
  · simp only [bp] at hc
    rw [kindW_out (by omega)]
    conv => whnf
    exact ret
  · simp only [bp] at hc
    rcases kind_cases (k := k) (by omega) with rfl | rfl | rfl | rfl | rfl
    · exact absurd hc (by decide)
    · rw [show kindW 1 = wLeast from rfl]
      conv => whnf
      exact ret
    · rw [show kindW 2 = wMost from rfl]
      conv => whnf
      exact ret
    · rw [show kindW 3 = wUp from rfl]
      conv => whnf
      exact ret
    · rw [show kindW 4 = wDown from rfl]
      conv => whnf
      exact ret
theorem call12 (s : List UInt8) (h : s.length ≤ 65536) : PureCall Tryz.prog 12 [.str s] [] ⟨.os 1000000000, [], [.row 0 9 1 (wordsB isBl s).length (fl eStr (wordsB isBl s))]⟩ := by
  refine pure_call mix Tryz.func12 fits12 rfl ?_
  conv => whnf
  refine ⟨_, fun _ => call33 s h, ?_⟩
  conv => whnf
  refine ⟨?_, [64], ?_⟩
  · exact g0
  conv => whnf
  refine ⟨rfl, ?_, trivial, ?_⟩ <;> exact ent
theorem call40 (τ : Nat) (w : List (List UInt8)) (hw : ∀ x ∈ w, WordOK isBl x) : PureCall Tryz.prog 40 [.sl τ 1 w.length (fl eStr w)] [] ⟨.bool (cntd w), [], []⟩ := by
  refine pure_call mix Tryz.func40 fits40 rfl ?_
  cases w with
  | nil =>
    conv => whnf
    exact ret
  | cons x r =>
    have hx := (hw x (List.mem_cons_self ..)).1
    have hxl : 0 < x.length := List.length_pos_iff.2 hx
    have h35 : (((x.getD 0 0).toNat : Int) != 35) = cntd (x :: r) := by
      show _ = !(x.getD 0 0 == 35)
      rw [Bool.eq_iff_iff]
      simp only [bne_iff_ne, ne_eq, Bool.not_eq_true', beq_eq_false_iff_ne]
      constructor
      · intro h e; rw [e] at h; exact h rfl
      · intro h e; exact h (UInt8.toNat_inj.1 (by show _ = 35; omega))
    rw [← h35]
    have hd : decide ((0 : Int) < (((x :: r).length : Nat) : Int)) = true := decide_eq_true (by rw [List.length_cons]; omega)
    conv => whnf
    refine ⟨?_, [], ?_⟩
    · exact g1
    conv => whnf
    refine ⟨rfl, ?_, trivial, trivial⟩
    show PLe _ _ _ _
    conv => whnf
    rw [hd]; rfl
def numsL : List (List UInt8) → Option (List Int)
  | [] => some []
  | x :: r => match numF x with
    | none => none
    | some v => (numsL r).map (v :: ·)
def numsR (w : List (List UInt8)) (n : Nat) : Option (List Int) := if w.length < n then none else numsL (w.take n)
theorem numsL_drop {v : List (List UInt8)} {i : Nat} (h : i < v.length) : numsL (v.drop i) = match numF (v.getD i default) with
    | none => none
    | some a => (numsL (v.drop (i + 1))).map (a :: ·) := by
  rw [List.drop_eq_getElem_cons h]
  have : v.getD i default = v[i] := by simp [List.getD, h]
  rw [this]; rfl
set_option maxRecDepth 100000 in
set_option maxHeartbeats 4000000 in
theorem call58 (τ : Nat) (w : List (List UInt8)) (n : Nat) (hn : n ≤ 1000) (hw : wLens w) : PureCall Tryz.prog 58 [.sl τ 1 w.length (fl eStr w), .int .i64 n] [] ⟨.tup [.sl 0 1 ((numsR w n).getD []).length (fl eInt ((numsR w n).getD [])), .bool (numsR w n).isSome], [], []⟩ := by
  refine pure_call mix Tryz.func58 fits58 rfl ?_
  have hnn : ((n : Int)).toNat = n := by omega
  unfold numsR
  conv => whnf
  refine ⟨trivial, fun hc => ?_, fun hc => ?_⟩
  · simp only [bp] at hc
    rw [if_pos (by omega)]
    conv => whnf
    exact ret
  simp only [bp] at hc
  rw [if_neg (by omega)]
  have hvl : (w.take n).length = n := by rw [List.length_take]; omega
  have hvg : ∀ i, i < n → (w.take n).getD i default = w.getD i default := fun i hi => by
    simp only [List.getD, List.getElem?_take, if_pos hi]
  have hvs : ∀ i, i < n → (w.getD i default).length ≤ 65536 := fun i hi => hw.2 _ (getD_mem (by omega))
  generalize w.take n = v at hvl hvg ⊢
  conv => whnf
  refine ⟨?_, ?_⟩
  · exact g0
  refine LSem.adopt 6 1000000 3 1 1 rfl rfl ?_
  refine LSem.loop (n := 36) mix (α := Nat × List Int) (fun x => x.1 ≤ n ∧ x.2.length = x.1 ∧ (numsL (v.drop x.1)).map (x.2 ++ ·) = numsL v)
    (fun x => [(6, .os 1000000), (17, .sl τ 1 n (fl eStr w)), (18, .int .i64 n), (19, .int .i64 x.1)])
    (fun x => [(1000000, .row 0 3 1 x.2.length (fl eInt x.2))]) (fun x => n - x.1) (0, []) ?_ ?_ ?_
  · refine ⟨Nat.zero_le _, rfl, ?_⟩
    show (numsL v).map (fun l => [] ++ l) = numsL v
    cases numsL v <;> rfl
  · refine ⟨rfl, rfl, ?_, ?_⟩ <;> exact ent
  · rintro ⟨i, out⟩ ⟨hi, ho, hp⟩
    dsimp only at hi ho hp
    have hj : ((i : Int)).toNat = i := by omega
    conv => whnf
    refine ⟨trivial, fun hc3 => ?_, fun hc3 => ?_⟩
    · replace hc3 := of_decide_eq_true hc3
      have hlt : i < n := by
        have h : (i : Int) < n := hc3
        omega
      rw [numsL_drop (by omega), hvg i hlt] at hp
      have hsl := hvs i hlt
      conv => whnf
      dsimp only
      rw [hj]
      generalize w.getD i default = x at hp hsl ⊢
      refine ⟨_, fun _ => call74 x (by omega), ?_⟩
      cases hx : numF x with
      | none =>
        rw [hx] at hp
        rw [← show (none : Option (List Int)) = numsL v from hp]
        conv => whnf
        refine ⟨?_, fun h1 => ?_, fun h1 => (by cases h1)⟩
        · exact g0
        conv => whnf
        exact ret
      | some a =>
        rw [hx] at hp
        have q := fl_push eInt out a
        conv => whnf
        refine ⟨?_, fun h1 => (by cases h1), fun h1 => ?_⟩
        · exact g0
        conv => whnf
        refine ⟨?_, (i + 1, out ++ [a]), ⟨hlt, by dsimp only; simp [ho], ?_⟩, ?_, rfl, rfl, ?_, ?_⟩
        · exact g0
        · dsimp only
          rw [← hp]
          dsimp only
          rw [Option.map_map]
          congr 1
          funext l
          simp
        · dsimp only; omega
        · exact ent
        · exact ent
    · replace hc3 := of_decide_eq_false hc3
      have hk : i = n := by
        have h : ¬ (i : Int) < n := hc3
        omega
      subst hk
      rw [List.drop_of_length_le (by omega)] at hp
      have hp2 : some out = numsL v := by
        rw [← hp]; show some out = some (out ++ []); rw [List.append_nil]
      rw [← hp2]
      conv => whnf
      exact ret
end Pv
end Go.Proofs.YtknidebojogodaaGreatDoor
/- LAW 13, THE WALKS: a line's words as a condition, second form. -/
set_option linter.unusedSimpArgs false
set_option linter.unusedVariables false
namespace Go.Proofs.YtknidebojogodaaGreatDoor
namespace Pv
def c41L1 : C := (.seq (.seq (.reg [⟨(some 55), 880, none, .mv (.t 9)⟩,
    ⟨(some 56), 896, none, .bi false .leq (.t 55) (.c (.int .i64 4))⟩])
  (.cond (.t 56) .skip (.exit 0)))
  (.seq (.block 1 (.seq (.drw [⟨(some 59), 944, none, .mv (.t 9)⟩,
    ⟨(some 60), 960, none, .call (.c (.fn (.func 14) [] [])) [(.t 59)]⟩,
    ⟨(some 61), 976, none, .mv (.t 0)⟩,
    ⟨(some 62), 992, none, .ia 1 (.t 61) (.c (.int .i64 2))⟩,
    ⟨(some 63), 1008, none, .ld 1 false (.t 62)⟩,
    ⟨(some 64), 1024, none, .bi false .eql (.t 60) (.t 63)⟩]
    [(0, 2, 59), (0, 3, 59), (0, 4, 59), (1, 2, 60), (1, 3, 60), (1, 4, 60)])
  (.cond (.t 64) (.reg [⟨(some 65), 1040, none, .mv (.t 9)⟩,
    ⟨(some 66), 1056, none, .fa 1 (.t 4)⟩,
    ⟨none, 0, none, .st 1 (.t 66) (.t 65)⟩]) .skip)))
  (.reg [⟨(some 57), 912, none, .mv (.t 9)⟩,
    ⟨(some 58), 928, none, .bi false .add (.t 57) (.c (.int .i64 1))⟩,
    ⟨(some 9), 144, none, .mv (.t 58)⟩])))
def c41L2 : C := (.seq (.seq (.reg [⟨(some 73), 1168, none, .mv (.t 0)⟩,
    ⟨(some 74), 1184, none, .len (.t 73)⟩,
    ⟨(some 75), 1200, none, .bi false .gtr (.t 74) (.c (.int .i64 0))⟩])
  (.cond (.t 75) .skip (.exit 2)))
  (.block 3 (.seq (.reg [⟨(some 13), 208, none, .mv (.c (.int .i64 1))⟩])
  (.seq (.seq (.reg [⟨(some 76), 1216, none, .mv (.t 0)⟩,
    ⟨(some 77), 1232, none, .ia 1 (.t 76) (.c (.int .i64 0))⟩,
    ⟨(some 78), 1248, none, .ld 1 false (.t 77)⟩,
    ⟨(some 79), 1264, none, .bi false .eql (.t 78) (.c (.str [100, 97, 121, 115]))⟩])
  (.cond (.t 79) (.reg [⟨(some 13), 208, none, .mv (.c (.int .i64 2))⟩]) .skip))
  (.seq (.reg [⟨(some 81), 1296, none, .mv (.t 0)⟩,
    ⟨(some 82), 1312, none, .slc 1 (.t 81) (some (.c (.int .i64 1))) none⟩,
    ⟨(some 83), 1328, none, .mv (.t 13)⟩,
    ⟨(some 84), 1344, none, .call (.c (.fn (.func 58) [] [])) [(.t 82), (.t 83)]⟩,
    ⟨(some 80), 1280, none, .mv (.t 84)⟩,
    ⟨(some 85), 1360, none, .ex (.t 80) 0⟩,
    ⟨(some 86), 1376, none, .ex (.t 80) 1⟩,
    ⟨(some 14), 224, none, .mv (.t 85)⟩,
    ⟨(some 15), 240, none, .mv (.t 86)⟩])
  (.seq (.seq (.reg [⟨(some 87), 1392, none, .mv (.t 15)⟩,
    ⟨(some 88), 1408, none, .un false .not (.t 87)⟩])
  (.cond (.t 88) (.seq (.reg [⟨(some 89), 1424, none, .ld 7 true (.t 4)⟩,
    ⟨none, 0, none, .st 7 (.t 2) (.t 89)⟩,
    ⟨(some 3), 48, none, .mv (.c (.bool false))⟩])
  .ret) .skip))
  (.seq (.block 4 (.seq (.reg [⟨(some 92), 1472, none, .mv (.t 0)⟩,
    ⟨(some 93), 1488, none, .ia 1 (.t 92) (.c (.int .i64 0))⟩,
    ⟨(some 94), 1504, none, .ld 1 false (.t 93)⟩,
    ⟨(some 95), 1520, none, .bi false .eql (.t 94) (.c (.str [100, 97, 121, 115]))⟩,
    ⟨(some 96), 1536, none, .mv (.t 95)⟩,
    ⟨(some 97), 1552, (some (96, true)), .mv (.t 10)⟩,
    ⟨(some 98), 1568, (some (96, true)), .un false .not (.t 97)⟩,
    ⟨(some 99), 1584, none, .pick (.t 96) (.t 98) (.c (.bool false))⟩,
    ⟨(some 91), 1456, none, .mv (.t 99)⟩])
  (.cond (.t 91) (.drw [⟨(some 100), 1600, none, .mv (.t 14)⟩,
    ⟨(some 101), 1616, none, .ia 1 (.t 100) (.c (.int .i64 0))⟩,
    ⟨(some 102), 1632, none, .ld 1 false (.t 101)⟩,
    ⟨(some 103), 1648, none, .mv (.t 14)⟩,
    ⟨(some 104), 1664, none, .ia 1 (.t 103) (.c (.int .i64 1))⟩,
    ⟨(some 105), 1680, none, .ld 1 false (.t 104)⟩,
    ⟨(some 106), 1696, none, .bd [(.int .i64 0), (.int .i64 0)] [(0, 1, (.t 102)), (1, 1, (.t 105))]⟩,
    ⟨(some 107), 1712, none, .fa 3 (.t 4)⟩,
    ⟨none, 0, none, .st 2 (.t 107) (.t 106)⟩,
    ⟨(some 10), 160, none, .mv (.c (.bool true))⟩]
    [(0, 3, 100), (0, 4, 100), (0, 5, 100), (1, 3, 101), (1, 4, 101), (1, 5, 101), (2, 3, 102), (2, 4, 102), (2, 5, 102)]) (.seq (.reg [⟨(some 109), 1744, none, .mv (.t 0)⟩,
    ⟨(some 110), 1760, none, .ia 1 (.t 109) (.c (.int .i64 0))⟩,
    ⟨(some 111), 1776, none, .ld 1 false (.t 110)⟩,
    ⟨(some 112), 1792, none, .bi false .eql (.t 111) (.c (.str [97, 98, 111, 118, 101]))⟩,
    ⟨(some 113), 1808, none, .mv (.t 112)⟩,
    ⟨(some 114), 1824, (some (113, true)), .mv (.t 11)⟩,
    ⟨(some 115), 1840, (some (113, true)), .un false .not (.t 114)⟩,
    ⟨(some 116), 1856, none, .pick (.t 113) (.t 115) (.c (.bool false))⟩,
    ⟨(some 108), 1728, none, .mv (.t 116)⟩])
  (.cond (.t 108) (.reg [⟨(some 117), 1872, none, .mv (.t 14)⟩,
    ⟨(some 118), 1888, none, .ia 1 (.t 117) (.c (.int .i64 0))⟩,
    ⟨(some 119), 1904, none, .ld 1 false (.t 118)⟩,
    ⟨(some 120), 1920, none, .fa 5 (.t 4)⟩,
    ⟨none, 0, none, .st 1 (.t 120) (.t 119)⟩,
    ⟨(some 11), 176, none, .mv (.c (.bool true))⟩]) (.seq (.reg [⟨(some 122), 1952, none, .mv (.t 0)⟩,
    ⟨(some 123), 1968, none, .ia 1 (.t 122) (.c (.int .i64 0))⟩,
    ⟨(some 124), 1984, none, .ld 1 false (.t 123)⟩,
    ⟨(some 125), 2000, none, .bi false .eql (.t 124) (.c (.str [98, 101, 108, 111, 119]))⟩,
    ⟨(some 126), 2016, none, .mv (.t 125)⟩,
    ⟨(some 127), 2032, (some (126, true)), .mv (.t 12)⟩,
    ⟨(some 128), 2048, (some (126, true)), .un false .not (.t 127)⟩,
    ⟨(some 129), 2064, none, .pick (.t 126) (.t 128) (.c (.bool false))⟩,
    ⟨(some 121), 1936, none, .mv (.t 129)⟩])
  (.cond (.t 121) (.reg [⟨(some 130), 2080, none, .mv (.t 14)⟩,
    ⟨(some 131), 2096, none, .ia 1 (.t 130) (.c (.int .i64 0))⟩,
    ⟨(some 132), 2112, none, .ld 1 false (.t 131)⟩,
    ⟨(some 133), 2128, none, .fa 6 (.t 4)⟩,
    ⟨none, 0, none, .st 1 (.t 133) (.t 132)⟩,
    ⟨(some 12), 192, none, .mv (.c (.bool true))⟩]) (.seq (.reg [⟨(some 90), 1440, none, .ld 7 true (.t 4)⟩,
    ⟨none, 0, none, .st 7 (.t 2) (.t 90)⟩,
    ⟨(some 3), 48, none, .mv (.c (.bool false))⟩])
  .ret))))))))
  (.reg [⟨(some 134), 2144, none, .mv (.t 0)⟩,
    ⟨(some 135), 2160, none, .mv (.t 13)⟩,
    ⟨(some 136), 2176, none, .bi false .add (.c (.int .i64 1)) (.t 135)⟩,
    ⟨(some 137), 2192, none, .slc 1 (.t 134) (some (.t 136)) none⟩,
    ⟨(some 0), 0, none, .mv (.t 137)⟩]))))))))
def c41 : C := (.seq (.reg [⟨(some 2), 32, none, .al [(.int .i64 0), (.int .i64 0), (.int .i64 0), (.int .i64 0), (.int .i64 0), (.int .i64 0), (.int .i64 0)]⟩,
    ⟨(some 3), 48, none, .mv (.c (.bool false))⟩])
  (.seq (.reg [⟨(some 16), 256, none, .bd [(.int .i64 0), (.int .i64 0)] [(1, 1, (.c (.int .i64 364)))]⟩,
    ⟨(some 17), 272, none, .bd [(.int .i64 0), (.int .i64 0), (.int .i64 0), (.int .i64 0), (.int .i64 0), (.int .i64 0), (.int .i64 0)] [(3, 2, (.t 16)), (6, 1, (.c (.int .i64 16777216)))]⟩,
    ⟨(some 4), 64, none, .al [(.int .i64 0), (.int .i64 0), (.int .i64 0), (.int .i64 0), (.int .i64 0), (.int .i64 0), (.int .i64 0)]⟩,
    ⟨none, 0, none, .st 7 (.t 4) (.t 17)⟩])
  (.seq (.seq (.reg [⟨(some 18), 288, none, .mv (.t 0)⟩,
    ⟨(some 19), 304, none, .len (.t 18)⟩,
    ⟨(some 20), 320, none, .bi false .lss (.t 19) (.c (.int .i64 4))⟩,
    ⟨(some 21), 336, none, .mv (.t 20)⟩,
    ⟨(some 22), 352, (some (21, false)), .mv (.t 0)⟩,
    ⟨(some 23), 368, (some (21, false)), .ia 1 (.t 22) (.c (.int .i64 0))⟩,
    ⟨(some 24), 384, (some (21, false)), .ld 1 false (.t 23)⟩,
    ⟨(some 25), 400, (some (21, false)), .bi false .neq (.t 24) (.c (.str [114, 97, 110, 107]))⟩,
    ⟨(some 26), 416, none, .pick (.t 21) (.c (.bool true)) (.t 25)⟩])
  (.cond (.t 26) (.seq (.reg [⟨(some 27), 432, none, .ld 7 true (.t 4)⟩,
    ⟨none, 0, none, .st 7 (.t 2) (.t 27)⟩,
    ⟨(some 3), 48, none, .mv (.c (.bool false))⟩])
  .ret) .skip))
  (.seq (.reg [⟨(some 29), 464, none, .mv (.t 0)⟩,
    ⟨(some 30), 480, none, .slc 1 (.t 29) (some (.c (.int .i64 1))) none⟩,
    ⟨(some 31), 496, none, .call (.c (.fn (.func 58) [] [])) [(.t 30), (.c (.int .i64 1))]⟩,
    ⟨(some 28), 448, none, .mv (.t 31)⟩,
    ⟨(some 32), 512, none, .ex (.t 28) 0⟩,
    ⟨(some 33), 528, none, .ex (.t 28) 1⟩,
    ⟨(some 5), 80, none, .mv (.t 32)⟩,
    ⟨(some 6), 96, none, .mv (.t 33)⟩])
  (.seq (.reg [⟨(some 35), 560, none, .mv (.t 0)⟩,
    ⟨(some 36), 576, none, .slc 1 (.t 35) (some (.c (.int .i64 3))) none⟩,
    ⟨(some 37), 592, none, .call (.c (.fn (.func 58) [] [])) [(.t 36), (.c (.int .i64 1))]⟩,
    ⟨(some 34), 544, none, .mv (.t 37)⟩,
    ⟨(some 38), 608, none, .ex (.t 34) 0⟩,
    ⟨(some 39), 624, none, .ex (.t 34) 1⟩,
    ⟨(some 7), 112, none, .mv (.t 38)⟩,
    ⟨(some 8), 128, none, .mv (.t 39)⟩])
  (.seq (.seq (.reg [⟨(some 40), 640, none, .mv (.t 6)⟩,
    ⟨(some 41), 656, none, .un false .not (.t 40)⟩,
    ⟨(some 42), 672, none, .mv (.t 41)⟩,
    ⟨(some 43), 688, (some (42, false)), .mv (.t 8)⟩,
    ⟨(some 44), 704, (some (42, false)), .un false .not (.t 43)⟩,
    ⟨(some 45), 720, none, .pick (.t 42) (.c (.bool true)) (.t 44)⟩])
  (.cond (.t 45) (.seq (.reg [⟨(some 46), 736, none, .ld 7 true (.t 4)⟩,
    ⟨none, 0, none, .st 7 (.t 2) (.t 46)⟩,
    ⟨(some 3), 48, none, .mv (.c (.bool false))⟩])
  .ret) .skip))
  (.seq (.drw [⟨(some 47), 752, none, .mv (.t 5)⟩,
    ⟨(some 48), 768, none, .ia 1 (.t 47) (.c (.int .i64 0))⟩,
    ⟨(some 49), 784, none, .ld 1 false (.t 48)⟩,
    ⟨(some 50), 800, none, .mv (.t 7)⟩,
    ⟨(some 51), 816, none, .ia 1 (.t 50) (.c (.int .i64 0))⟩,
    ⟨(some 52), 832, none, .ld 1 false (.t 51)⟩,
    ⟨(some 53), 848, none, .fa 0 (.t 4)⟩,
    ⟨none, 0, none, .st 1 (.t 53) (.t 49)⟩,
    ⟨(some 54), 864, none, .fa 2 (.t 4)⟩,
    ⟨none, 0, none, .st 1 (.t 54) (.t 52)⟩]
    [(0, 3, 47), (0, 4, 47), (0, 5, 47), (1, 3, 48), (1, 4, 48), (1, 5, 48), (2, 3, 49), (2, 4, 49), (2, 5, 49), (3, 6, 50), (3, 7, 50), (4, 6, 51), (4, 7, 51), (5, 6, 52), (5, 7, 52)])
  (.seq (.seq (.reg [⟨(some 9), 144, none, .mv (.c (.int .i64 1))⟩])
  (.block 0 (.loop c41L1)))
  (.seq (.seq (.reg [⟨(some 67), 1072, none, .fa 1 (.t 4)⟩,
    ⟨(some 68), 1088, none, .ld 1 false (.t 67)⟩,
    ⟨(some 69), 1104, none, .bi false .eql (.t 68) (.c (.int .i64 0))⟩])
  (.cond (.t 69) (.seq (.reg [⟨(some 70), 1120, none, .ld 7 true (.t 4)⟩,
    ⟨none, 0, none, .st 7 (.t 2) (.t 70)⟩,
    ⟨(some 3), 48, none, .mv (.c (.bool false))⟩])
  .ret) .skip))
  (.seq (.reg [⟨(some 10), 160, none, .mv (.c (.bool false))⟩,
    ⟨(some 11), 176, none, .mv (.c (.bool false))⟩,
    ⟨(some 12), 192, none, .mv (.c (.bool false))⟩])
  (.seq (.seq (.reg [⟨(some 71), 1136, none, .mv (.t 0)⟩,
    ⟨(some 72), 1152, none, .slc 1 (.t 71) (some (.c (.int .i64 4))) none⟩,
    ⟨(some 0), 0, none, .mv (.t 72)⟩])
  (.block 2 (.loop c41L2)))
  (.seq (.reg [⟨(some 138), 2208, none, .ld 7 true (.t 4)⟩,
    ⟨none, 0, none, .st 7 (.t 2) (.t 138)⟩,
    ⟨(some 3), 48, none, .mv (.c (.bool true))⟩])
  .ret))))))))))))
theorem fits41 : fits Tryz.prog false Tryz.f41 1 139 [(2, some (7, true)), (3, none)] = some c41.er := by kernel_rfl
def partsR : Nat → Cd → Bool → Bool → Bool → List (List UInt8) → Cd × Bool
  | 0, c, _, _, _, _ => (c, true)
  | n + 1, c, d, a, b, w => match w with
    | [] => (c, true)
    | x :: r => if x = wDays then (match numsR r 2 with
        | none => (c, false)
        | some l => if d = true then (c, false) else partsR n { c with f := l.getD 0 0, u := l.getD 1 0 } true a b (r.drop 2))
      else (match numsR r 1 with
        | none => (c, false)
        | some l => if x = wAbove then (if a = true then (c, false) else partsR n { c with a := l.getD 0 0 } d true b (r.drop 1))
          else if x = wBelow then (if b = true then (c, false) else partsR n { c with b := l.getD 0 0 } d a true (r.drop 1)) else (c, false))
def c00 : Cd := ⟨0, 0, 0, 0, 364, 0, 16777216⟩
def lineR (w : List (List UInt8)) : Cd × Bool := if w.length < 4 ∨ w.headD [] ≠ wRank then (c00, false) else match numsR (w.drop 1) 1, numsR (w.drop 3) 1 with
  | some la, some lb => if kindOf (w.getD 2 default) = 0 then (⟨la.getD 0 0, 0, lb.getD 0 0, 0, 364, 0, 16777216⟩, false) else partsR w.length ⟨la.getD 0 0, kindOf (w.getD 2 default), lb.getD 0 0, 0, 364, 0, 16777216⟩ false false false (w.drop 4)
  | _, _ => (c00, false)
theorem fl_drop {α : Type} [Inhabited α] (e : α → List PV) (l : List α) (k i : Nat) : fl e l (k + i) = fl e (l.drop k) i := by
  simp only [fl, List.getD, List.getElem?_drop]
theorem numsL_len : ∀ {w : List (List UInt8)} {l : List Int}, numsL w = some l → l.length = w.length
  | [], l, h => by simp [numsL] at h; subst h; rfl
  | x :: r, l, h => by
    unfold numsL at h
    split at h
    · cases h
    · obtain ⟨l', h1, rfl⟩ := Option.map_eq_some_iff.1 h
      simp [numsL_len h1]
theorem numsR_len {w : List (List UInt8)} {n : Nat} {l : List Int} (h : numsR w n = some l) : l.length = n := by
  unfold numsR at h
  split at h
  · cases h
  · rw [numsL_len h, List.length_take]; omega
theorem numsR_le {w : List (List UInt8)} {n : Nat} {l : List Int} (h : numsR w n = some l) : n ≤ w.length := by
  unfold numsR at h
  split at h
  · cases h
  · omega
theorem wLens.drop {w : List (List UInt8)} (h : wLens w) (k : Nat) : wLens (w.drop k) := ⟨by have := h.1; rw [List.length_drop]; omega, fun x hx => h.2 x (List.mem_of_mem_drop hx)⟩
theorem kU_step (w : List UInt8) {k : Nat} (h : 1 ≤ k ∧ k ≤ 4) : kU w (k + 1) = if kindW k = w then (k : Int) else kU w k := by
  have hk : kindWords.getD k [] = kindW k := by
    have : k = 1 ∨ k = 2 ∨ k = 3 ∨ k = 4 := by omega
    rcases this with rfl | rfl | rfl | rfl <;> decide
  rw [show kU w (k + 1) = if 0 < k ∧ kindWords.getD k [] = w then (k : Int) else kU w k from rfl, hk]
  by_cases h2 : kindW k = w
  · rw [if_pos ⟨by omega, h2⟩, if_pos h2]
  · rw [if_neg (fun e => h2 e.2), if_neg h2]
set_option maxRecDepth 100000 in
set_option maxHeartbeats 8000000 in
theorem call41 (w : List (List UInt8)) (hw : wLens w) : PureCall Tryz.prog 41 [.sl 2 1 w.length (fl eStr w)] [] ⟨.tup [.agg (eCd (lineR w).1), .bool (lineR w).2], [], []⟩ := by
  refine pure_call mix Tryz.func41 fits41 rfl ?_
  unfold lineR
  have hw0 := hw.1
  conv => whnf
  refine ⟨?_, fun hc => ?_, fun hc => ?_⟩
  · exact g0
  · have h : w.length < 4 ∨ w.headD [] ≠ wRank := by
      simp only [bp] at hc
      rcases hc with h | h
      · exact .inl (by omega)
      · refine .inr fun e => h.2 ?_
        cases w with
        | nil => exact absurd h.1 (by simp)
        | cons x r => exact e
    rw [if_pos h]
    conv => whnf
    exact ret
  have h : ¬ (w.length < 4 ∨ w.headD [] ≠ wRank) := by
    simp only [bp] at hc
    rintro (h | h)
    · omega
    · cases w with
      | nil => exact absurd hc.1 (by simp)
      | cons x r => exact h hc.2
  rw [if_neg h]
  have h4 : 4 ≤ w.length := by omega
  clear hc h
  conv => whnf
  refine ⟨_, fun _ => PureCall.arg_le (call58 2 (w.drop 1) 1 (by omega) (hw.drop 1)) rfl ⟨⟨Nat.le_refl _, rfl, by rw [List.length_drop]; rfl, fun i _ => fl_drop eStr w 1 i⟩, ent, trivial⟩, ?_⟩
  conv => whnf
  refine ⟨_, fun _ => PureCall.arg_le (call58 2 (w.drop 3) 1 (by omega) (hw.drop 3)) rfl ⟨⟨Nat.le_refl _, rfl, by rw [List.length_drop]; rfl, fun i _ => fl_drop eStr w 3 i⟩, ent, trivial⟩, ?_⟩
  cases h1 : numsR (w.drop 1) 1 with
  | none =>
    conv => whnf
    refine ⟨?_, fun hc => ?_, fun hc => (by cases hc)⟩
    · exact g0
    conv => whnf
    exact ret
  | some la =>
    cases h2 : numsR (w.drop 3) 1 with
    | none =>
      conv => whnf
      refine ⟨?_, fun hc => ?_, fun hc => (by cases hc)⟩
      · exact g0
      conv => whnf
      exact ret
    | some lb =>
      obtain ⟨a, rfl⟩ := List.length_eq_one_iff.1 (numsR_len h1)
      obtain ⟨b, rfl⟩ := List.length_eq_one_iff.1 (numsR_len h2)
      dsimp only
      rw [show [a].getD 0 0 = a from rfl, show [b].getD 0 0 = b from rfl]
      conv => whnf
      refine ⟨?_, fun hc => (by cases hc), fun hc => ?_⟩
      · exact g0
      conv => whnf
      refine ⟨rfl, ?_⟩
      conv => whnf
      refine ⟨?_, ?_⟩
      · exact g0
      refine LSem.loop (n := 139) mix (α := Nat) (fun k => 1 ≤ k ∧ k ≤ 5)
        (fun k => [(0, .sl 2 1 w.length (fl eStr w)), (2, .pt 32 0 0), (4, .pt 64 0 0), (9, .int .i64 k)])
        (fun k => [(32, .box [.int .i64 0, .int .i64 0, .int .i64 0, .int .i64 0, .int .i64 0, .int .i64 0, .int .i64 0]), (64, .box (eCd ⟨a, kU (w.getD 2 default) k, b, 0, 364, 0, 16777216⟩))]) (fun k => 5 - k) 1 ?_ ?_ ?_
      · omega
      · refine ⟨rfl, rfl, ?_, ?_⟩ <;> exact ent
      · rintro k ⟨hk1, hk2⟩
        conv => whnf
        refine ⟨trivial, fun hc => ?_, fun hc => ?_⟩
        · replace hc := of_decide_eq_true hc
          have hk4 : k ≤ 4 := by
            have h : (k : Int) ≤ 4 := hc
            omega
          have hst := kU_step (w.getD 2 default) (k := k) ⟨hk1, hk4⟩
          conv => whnf
          refine ⟨_, fun _ => call14 k, ?_⟩
          conv => whnf
          refine ⟨rfl, ?_⟩
          conv => whnf
          refine ⟨?_, fun h => ?_, fun h => ?_⟩
          · exact g0
          · have he : kindW k = w.getD 2 default := eq_of_beq h
            rw [if_pos he] at hst
            have hst' := hst.symm
            conv => whnf
            refine ⟨?_, k + 1, by omega, by omega, rfl, rfl, ?_, ?_⟩
            · exact g0
            · exact ent
            · exact ent
          · have he : ¬ kindW k = w.getD 2 default := ne_of_beq_false h
            rw [if_neg he] at hst
            have hst' := hst.symm
            conv => whnf
            refine ⟨?_, k + 1, by omega, by omega, rfl, rfl, ?_, ?_⟩
            · exact g0
            · exact ent
            · exact ent
        · replace hc := of_decide_eq_false hc
          have hk5 : k = 5 := by
            have h : ¬ (k : Int) ≤ 4 := hc
            omega
          subst hk5
          rw [kU_kind]
          generalize kindOf (w.getD 2 default) = kd
          conv => whnf
          refine ⟨trivial, fun h => ?_, fun h => ?_⟩
          · simp only [bp] at h
            subst h
            rw [if_pos rfl]
            conv => whnf
            exact ret
          simp only [bp] at h
          rw [if_neg h]
          conv => whnf
          refine ⟨?_, ?_⟩
          · exact g0
          have hD : ∃ R, partsR w.length ⟨a, kd, b, 0, 364, 0, 16777216⟩ false false false (w.drop 4) = R := ⟨_, rfl⟩
          obtain ⟨R, hR⟩ := hD
          rw [hR]
          refine LSem.loop (n := 139) mix (α := (Nat × Cd × Bool × Bool × Bool) × List (List UInt8))
            (fun ⟨⟨n, c, d, a', b'⟩, v⟩ => wLens v ∧ v.length < n ∧ partsR n c d a' b' v = R)
            (fun ⟨⟨n, c, d, a', b'⟩, v⟩ => [(0, .sl 2 1 v.length (fl eStr v)), (2, .pt 32 0 0), (4, .pt 64 0 0), (10, .bool d), (11, .bool a'), (12, .bool b')])
            (fun ⟨⟨n, c, d, a', b'⟩, v⟩ => [(32, .box [.int .i64 0, .int .i64 0, .int .i64 0, .int .i64 0, .int .i64 0, .int .i64 0, .int .i64 0]), (64, .box (eCd c))]) (fun x => x.1.1)
            ((w.length, ⟨a, kd, b, 0, 364, 0, 16777216⟩, false, false, false), w.drop 4) ?_ ?_ ?_
          · exact ⟨hw.drop 4, by rw [List.length_drop]; omega, hR⟩
          · refine ⟨rfl, rfl, ?_, ?_⟩
            · refine leF_cons rfl ?_ ?_
              · show PLe _ _ _ _
                conv => whnf
                exact ⟨Nat.le_refl _, rfl, by rw [List.length_drop]; rfl, fun i _ => fl_drop eStr w 4 i⟩
              · exact ent
            · exact ent
          · rintro ⟨⟨n, c, d, a', b'⟩, v⟩ ⟨k1, k2, k3⟩
            obtain ⟨n, rfl⟩ : ∃ m, n = m + 1 := ⟨n - 1, by omega⟩
            cases v with
            | nil =>
              rw [← k3]
              conv => whnf
              refine ⟨trivial, fun hc => (by cases hc), fun hc => ?_⟩
              conv => whnf
              exact ret
            | cons x r =>
              have hr : wLens r := k1.drop 1
              have k2' : r.length < n := by rw [List.length_cons] at k2; omega
              have hpos : ¬ ¬ (0 : Int) < (((x :: r).length : Nat) : Int) := by rw [List.length_cons]; omega
              by_cases e1 : x = wDays
              · subst e1
                unfold partsR at k3
                dsimp only at k3
                rw [if_pos rfl] at k3
                conv => whnf
                refine ⟨trivial, fun hc => ?_, fun hc => absurd (of_decide_eq_false hc) hpos⟩
                conv => whnf
                refine ⟨?_, fun hc => ?_, fun hc => Bool.noConfusion (show true = false from hc)⟩
                · exact g0
                conv => whnf
                refine ⟨_, fun _ => PureCall.arg_le (call58 2 r 2 (by omega) hr) rfl ⟨⟨Nat.le_refl _, rfl, rfl, fun i _ => fl_drop eStr (wDays :: r) 1 i⟩, ent, trivial⟩, ?_⟩
                cases hN : numsR r 2 with
                | none =>
                  rw [hN] at k3
                  dsimp only at k3
                  rw [← k3]
                  conv => whnf
                  refine ⟨?_, fun hc => ?_, fun hc => Bool.noConfusion (show true = false from hc)⟩
                  · exact g0
                  conv => whnf
                  exact ret
                | some l =>
                  have hle := numsR_le hN
                  rw [hN] at k3
                  dsimp only at k3
                  have hl2 := numsR_len hN
                  obtain ⟨l0, l1, rfl⟩ : ∃ l0 l1, l = [l0, l1] := by
                    match l, hl2 with
                    | [l0, l1], _ => exact ⟨l0, l1, rfl⟩
                  conv => whnf
                  refine ⟨?_, fun hc => Bool.noConfusion (show false = true from hc), fun hc => ?_⟩
                  · exact g0
                  conv => whnf
                  cases d with
                  | true =>
                    rw [if_pos rfl] at k3
                    rw [← k3]
                    refine ⟨?_, fun hc => Bool.noConfusion (show false = true from hc), fun hc => ?_⟩
                    · exact g0
                    conv => whnf
                    refine ⟨?_, fun hc => Bool.noConfusion (show false = true from hc), fun hc => ?_⟩
                    · exact g0
                    conv => whnf
                    refine ⟨?_, fun hc => Bool.noConfusion (show false = true from hc), fun hc => ?_⟩
                    · exact g0
                    conv => whnf
                    exact ret
                  | false =>
                    rw [if_neg (by decide)] at k3
                    refine ⟨?_, fun hc => ?_, fun hc => Bool.noConfusion (show true = false from hc)⟩
                    · exact g0
                    conv => whnf
                    refine ⟨rfl, ?_⟩
                    conv => whnf
                    refine ⟨?_, ((n, { c with f := l0, u := l1 }, true, a', b'), r.drop 2), ⟨hr.drop 2, by rw [List.length_drop]; omega, k3⟩, Nat.lt_succ_self n, rfl, rfl, ?_, ?_⟩
                    · exact g0
                    · refine leF_cons rfl ?_ ?_
                      · show PLe _ _ _ _
                        conv => whnf
                        exact ⟨Nat.le_refl _, rfl, by rw [List.length_drop]; show r.length + 1 - 3 = _; omega, fun i _ => fl_drop eStr (wDays :: r) 3 i⟩
                      · exact ent
                    · exact ent
              by_cases e2 : x = wAbove
              · subst e2
                unfold partsR at k3
                dsimp only at k3
                rw [if_neg (by decide)] at k3
                conv => whnf
                refine ⟨trivial, fun hc => ?_, fun hc => absurd (of_decide_eq_false hc) hpos⟩
                conv => whnf
                refine ⟨?_, fun hc => Bool.noConfusion (show false = true from hc), fun hc => ?_⟩
                · exact g0
                conv => whnf
                refine ⟨_, fun _ => PureCall.arg_le (call58 2 r 1 (by omega) hr) rfl ⟨⟨Nat.le_refl _, rfl, rfl, fun i _ => fl_drop eStr (wAbove :: r) 1 i⟩, ent, trivial⟩, ?_⟩
                cases hN : numsR r 1 with
                | none =>
                  rw [hN] at k3
                  dsimp only at k3
                  rw [← k3]
                  conv => whnf
                  refine ⟨?_, fun hc => ?_, fun hc => Bool.noConfusion (show true = false from hc)⟩
                  · exact g0
                  conv => whnf
                  exact ret
                | some l =>
                  have hle := numsR_le hN
                  rw [hN] at k3
                  dsimp only at k3
                  obtain ⟨l0, rfl⟩ := List.length_eq_one_iff.1 (numsR_len hN)
                  rw [if_pos rfl] at k3
                  conv => whnf
                  refine ⟨?_, fun hc => Bool.noConfusion (show false = true from hc), fun hc => ?_⟩
                  · exact g0
                  conv => whnf
                  cases a' with
                  | true =>
                    rw [if_pos rfl] at k3
                    rw [← k3]
                    refine ⟨?_, fun hc => Bool.noConfusion (show false = true from hc), fun hc => ?_⟩
                    · exact g0
                    conv => whnf
                    refine ⟨?_, fun hc => Bool.noConfusion (show false = true from hc), fun hc => ?_⟩
                    · exact g0
                    conv => whnf
                    refine ⟨?_, fun hc => Bool.noConfusion (show false = true from hc), fun hc => ?_⟩
                    · exact g0
                    conv => whnf
                    exact ret
                  | false =>
                    rw [if_neg (by decide)] at k3
                    refine ⟨?_, fun hc => Bool.noConfusion (show false = true from hc), fun hc => ?_⟩
                    · exact g0
                    conv => whnf
                    refine ⟨?_, fun hc => ?_, fun hc => Bool.noConfusion (show true = false from hc)⟩
                    · exact g0
                    conv => whnf
                    refine ⟨?_, ((n, { c with a := l0 }, d, true, b'), r.drop 1), ⟨hr.drop 1, by rw [List.length_drop]; omega, k3⟩, Nat.lt_succ_self n, rfl, rfl, ?_, ?_⟩
                    · exact g0
                    · refine leF_cons rfl ?_ ?_
                      · show PLe _ _ _ _
                        conv => whnf
                        exact ⟨Nat.le_refl _, rfl, by rw [List.length_drop]; show r.length + 1 - 2 = _; omega, fun i _ => fl_drop eStr (wAbove :: r) 2 i⟩
                      · exact ent
                    · exact ent
              by_cases e3 : x = wBelow
              · subst e3
                unfold partsR at k3
                dsimp only at k3
                rw [if_neg (by decide)] at k3
                conv => whnf
                refine ⟨trivial, fun hc => ?_, fun hc => absurd (of_decide_eq_false hc) hpos⟩
                conv => whnf
                refine ⟨?_, fun hc => Bool.noConfusion (show false = true from hc), fun hc => ?_⟩
                · exact g0
                conv => whnf
                refine ⟨_, fun _ => PureCall.arg_le (call58 2 r 1 (by omega) hr) rfl ⟨⟨Nat.le_refl _, rfl, rfl, fun i _ => fl_drop eStr (wBelow :: r) 1 i⟩, ent, trivial⟩, ?_⟩
                cases hN : numsR r 1 with
                | none =>
                  rw [hN] at k3
                  dsimp only at k3
                  rw [← k3]
                  conv => whnf
                  refine ⟨?_, fun hc => ?_, fun hc => Bool.noConfusion (show true = false from hc)⟩
                  · exact g0
                  conv => whnf
                  exact ret
                | some l =>
                  have hle := numsR_le hN
                  rw [hN] at k3
                  dsimp only at k3
                  obtain ⟨l0, rfl⟩ := List.length_eq_one_iff.1 (numsR_len hN)
                  rw [if_neg (by decide), if_pos rfl] at k3
                  conv => whnf
                  refine ⟨?_, fun hc => Bool.noConfusion (show false = true from hc), fun hc => ?_⟩
                  · exact g0
                  conv => whnf
                  cases b' with
                  | true =>
                    rw [if_pos rfl] at k3
                    rw [← k3]
                    refine ⟨?_, fun hc => Bool.noConfusion (show false = true from hc), fun hc => ?_⟩
                    · exact g0
                    conv => whnf
                    refine ⟨?_, fun hc => Bool.noConfusion (show false = true from hc), fun hc => ?_⟩
                    · exact g0
                    conv => whnf
                    refine ⟨?_, fun hc => Bool.noConfusion (show false = true from hc), fun hc => ?_⟩
                    · exact g0
                    conv => whnf
                    exact ret
                  | false =>
                    rw [if_neg (by decide)] at k3
                    refine ⟨?_, fun hc => Bool.noConfusion (show false = true from hc), fun hc => ?_⟩
                    · exact g0
                    conv => whnf
                    refine ⟨?_, fun hc => Bool.noConfusion (show false = true from hc), fun hc => ?_⟩
                    · exact g0
                    conv => whnf
                    refine ⟨?_, fun hc => ?_, fun hc => Bool.noConfusion (show true = false from hc)⟩
                    · exact g0
                    conv => whnf
                    refine ⟨?_, ((n, { c with b := l0 }, d, a', true), r.drop 1), ⟨hr.drop 1, by rw [List.length_drop]; omega, k3⟩, Nat.lt_succ_self n, rfl, rfl, ?_, ?_⟩
                    · exact g0
                    · refine leF_cons rfl ?_ ?_
                      · show PLe _ _ _ _
                        conv => whnf
                        exact ⟨Nat.le_refl _, rfl, by rw [List.length_drop]; show r.length + 1 - 2 = _; omega, fun i _ => fl_drop eStr (wBelow :: r) 2 i⟩
                      · exact ent
                    · exact ent
              have F1 : ∀ z : List UInt8, x ≠ z → ∀ f : Bool, (bif (x == z) then f else false) = false := fun z hz f => by rw [beq_eq_false_iff_ne.2 hz]; rfl
              unfold partsR at k3
              dsimp only at k3
              rw [if_neg e1] at k3
              conv => whnf
              refine ⟨trivial, fun hc => ?_, fun hc => absurd (of_decide_eq_false hc) hpos⟩
              conv => whnf
              refine ⟨?_, fun hc => absurd (eq_of_beq hc) e1, fun hc => ?_⟩
              · exact g0
              conv => whnf
              refine ⟨_, fun _ => PureCall.arg_le (call58 2 r 1 (by omega) hr) rfl ⟨⟨Nat.le_refl _, rfl, rfl, fun i _ => fl_drop eStr (x :: r) 1 i⟩, ent, trivial⟩, ?_⟩
              cases hN : numsR r 1 with
              | none =>
                rw [hN] at k3
                dsimp only at k3
                rw [← k3]
                conv => whnf
                refine ⟨?_, fun hc => ?_, fun hc => Bool.noConfusion (show true = false from hc)⟩
                · exact g0
                conv => whnf
                exact ret
              | some l =>
                rw [hN] at k3
                dsimp only at k3
                rw [if_neg e2, if_neg e3] at k3
                rw [← k3]
                conv => whnf
                refine ⟨?_, fun hc => Bool.noConfusion (show false = true from hc), fun hc => ?_⟩
                · exact g0
                conv => whnf
                refine ⟨?_, fun hc => absurd (hc.symm.trans (F1 wDays e1 _)) (by decide), fun hc => ?_⟩
                · exact g0
                conv => whnf
                refine ⟨?_, fun hc => absurd (hc.symm.trans (F1 wAbove e2 _)) (by decide), fun hc => ?_⟩
                · exact g0
                conv => whnf
                refine ⟨?_, fun hc => absurd (hc.symm.trans (F1 wBelow e3 _)) (by decide), fun hc => ?_⟩
                · exact g0
                conv => whnf
                exact ret
end Pv
end Go.Proofs.YtknidebojogodaaGreatDoor
/- LAW 13, THE WALKS: a text's conditions, second form. -/
set_option linter.unusedSimpArgs false
set_option linter.unusedVariables false
namespace Go.Proofs.YtknidebojogodaaGreatDoor
namespace Pv
def c19L1 : C := (.seq (.reg [⟨(some 24), 384, none, .bi false .lss (.t 23) (.t 22)⟩])
  (.seq (.cond (.t 24) .skip (.exit 0))
  (.seq (.block 1 (.seq (.reg [⟨(some 25), 400, none, .ia 1 (.t 21) (.t 23)⟩,
    ⟨(some 26), 416, none, .ld 1 false (.t 25)⟩,
    ⟨(some 8), 128, none, .mv (.t 26)⟩])
  (.seq (.reg [⟨(some 27), 432, none, .mv (.t 8)⟩,
    ⟨(some 28), 448, none, .call (.c (.fn (.func 12) [] [])) [(.t 27)]⟩,
    ⟨(some 29), 464, none, .call (.c (.fn (.func 40) [] [])) [(.t 28)]⟩])
  (.cond (.t 29) (.reg [⟨(some 30), 480, none, .mv (.t 6)⟩,
    ⟨(some 31), 496, none, .bi false .add (.t 30) (.c (.int .i64 1))⟩,
    ⟨(some 6), 96, none, .mv (.t 31)⟩]) .skip))))
  (.reg [⟨(some 32), 512, none, .bi false .add (.t 23) (.c (.int .i64 1))⟩,
    ⟨(some 23), 368, none, .mv (.t 32)⟩]))))
def c19L2 : C := (.seq (.reg [⟨(some 38), 608, none, .bi false .lss (.t 37) (.t 36)⟩])
  (.seq (.cond (.t 38) .skip (.exit 2))
  (.seq (.block 3 (.seq (.reg [⟨(some 39), 624, none, .mv (.t 37)⟩,
    ⟨(some 40), 640, none, .ia 1 (.t 35) (.t 37)⟩,
    ⟨(some 41), 656, none, .ld 1 false (.t 40)⟩,
    ⟨(some 10), 160, none, .mv (.t 39)⟩,
    ⟨(some 11), 176, none, .mv (.t 41)⟩])
  (.seq (.reg [⟨(some 42), 672, none, .mv (.t 11)⟩,
    ⟨(some 43), 688, none, .call (.c (.fn (.func 12) [] [])) [(.t 42)]⟩,
    ⟨(some 12), 192, none, .mv (.t 43)⟩])
  (.seq (.seq (.reg [⟨(some 44), 704, none, .mv (.t 12)⟩,
    ⟨(some 45), 720, none, .call (.c (.fn (.func 40) [] [])) [(.t 44)]⟩,
    ⟨(some 46), 736, none, .un false .not (.t 45)⟩])
  (.cond (.t 46) (.exit 3) .skip))
  (.seq (.reg [⟨(some 48), 768, none, .mv (.t 12)⟩,
    ⟨(some 49), 784, none, .call (.c (.fn (.func 41) [] [])) [(.t 48)]⟩,
    ⟨(some 47), 752, none, .mv (.t 49)⟩,
    ⟨(some 50), 800, none, .ex (.t 47) 0⟩,
    ⟨(some 51), 816, none, .ex (.t 47) 1⟩,
    ⟨(some 13), 208, none, .al [(.int .i64 0), (.int .i64 0), (.int .i64 0), (.int .i64 0), (.int .i64 0), (.int .i64 0), (.int .i64 0)]⟩,
    ⟨none, 0, none, .st 7 (.t 13) (.t 50)⟩,
    ⟨(some 14), 224, none, .mv (.t 51)⟩])
  (.seq (.seq (.reg [⟨(some 52), 832, none, .mv (.t 14)⟩,
    ⟨(some 53), 848, none, .un false .not (.t 52)⟩])
  (.cond (.t 53) (.seq (.reg [⟨(some 54), 864, none, .mv (.t 10)⟩,
    ⟨(some 55), 880, none, .bi false .add (.t 54) (.c (.int .i64 1))⟩,
    ⟨(some 2), 32, none, .mv (.c (.nil 7))⟩,
    ⟨(some 3), 48, none, .mv (.t 55)⟩,
    ⟨(some 4), 64, none, .mv (.c (.int .i64 7))⟩])
  .ret) .skip))
  (.seq (.seq (.reg [⟨(some 56), 896, none, .ld 7 true (.t 13)⟩,
    ⟨(some 57), 912, none, .call (.c (.fn (.func 42) [] [])) [(.t 56)]⟩,
    ⟨(some 15), 240, none, .mv (.t 57)⟩])
  (.seq (.reg [⟨(some 58), 928, none, .mv (.t 15)⟩,
    ⟨(some 59), 944, none, .bi false .neq (.t 58) (.c (.int .i64 0))⟩])
  (.cond (.t 59) (.seq (.reg [⟨(some 60), 960, none, .mv (.t 10)⟩,
    ⟨(some 61), 976, none, .bi false .add (.t 60) (.c (.int .i64 1))⟩,
    ⟨(some 62), 992, none, .mv (.t 15)⟩,
    ⟨(some 2), 32, none, .mv (.c (.nil 7))⟩,
    ⟨(some 3), 48, none, .mv (.t 61)⟩,
    ⟨(some 4), 64, none, .mv (.t 62)⟩])
  .ret) .skip)))
  (.reg [⟨(some 63), 1008, none, .mv (.t 9)⟩,
    ⟨(some 64), 1024, none, .ld 7 true (.t 13)⟩,
    ⟨(some 65), 1040, none, .bs 49 7 [(.t 64)]⟩,
    ⟨(some 66), 1056, none, .app 49 7 56 (.t 63) (.t 65)⟩,
    ⟨(some 9), 144, none, .mv (.t 66)⟩]))))))))
  (.reg [⟨(some 67), 1072, none, .bi false .add (.t 37) (.c (.int .i64 1))⟩,
    ⟨(some 37), 592, none, .mv (.t 67)⟩]))))
def c19 : C := (.seq (.reg [⟨(some 2), 32, none, .mv (.c (.nil 7))⟩,
    ⟨(some 3), 48, none, .mv (.c (.int .i64 0))⟩,
    ⟨(some 4), 64, none, .mv (.c (.int .i64 0))⟩])
  (.seq (.seq (.reg [⟨(some 16), 256, none, .mv (.t 0)⟩,
    ⟨(some 17), 272, none, .lens (.t 16)⟩,
    ⟨(some 18), 288, none, .bi false .gtr (.t 17) (.c (.int .i64 65536))⟩])
  (.cond (.t 18) (.seq (.reg [⟨(some 2), 32, none, .mv (.c (.nil 7))⟩,
    ⟨(some 3), 48, none, .mv (.c (.int .i64 0))⟩,
    ⟨(some 4), 64, none, .mv (.c (.int .i64 10))⟩])
  .ret) .skip))
  (.seq (.reg [⟨(some 19), 304, none, .mv (.t 0)⟩,
    ⟨(some 20), 320, none, .call (.c (.fn (.func 39) [] [])) [(.t 19)]⟩,
    ⟨(some 5), 80, none, .mv (.t 20)⟩])
  (.seq (.reg [⟨(some 6), 96, none, .mv (.c (.int .i64 0))⟩])
  (.seq (.seq (.reg [⟨(some 21), 336, none, .mv (.t 5)⟩,
    ⟨(some 22), 352, none, .len (.t 21)⟩,
    ⟨(some 23), 368, none, .mv (.c (.int .i64 0))⟩])
  (.block 0 (.loop c19L1)))
  (.seq (.seq (.reg [⟨(some 33), 528, none, .mv (.t 6)⟩,
    ⟨(some 34), 544, none, .bi false .gtr (.t 33) (.c (.int .i64 200))⟩])
  (.cond (.t 34) (.seq (.reg [⟨(some 2), 32, none, .mv (.c (.nil 7))⟩,
    ⟨(some 3), 48, none, .mv (.c (.int .i64 0))⟩,
    ⟨(some 4), 64, none, .mv (.c (.int .i64 10))⟩])
  .ret) .skip))
  (.seq (.reg [⟨(some 9), 144, none, .mv (.c (.nil 7))⟩])
  (.seq (.seq (.reg [⟨(some 35), 560, none, .mv (.t 5)⟩,
    ⟨(some 36), 576, none, .len (.t 35)⟩,
    ⟨(some 37), 592, none, .mv (.c (.int .i64 0))⟩])
  (.block 2 (.loop c19L2)))
  (.seq (.reg [⟨(some 68), 1088, none, .mv (.t 9)⟩,
    ⟨(some 2), 32, none, .mv (.t 68)⟩,
    ⟨(some 3), 48, none, .mv (.c (.int .i64 0))⟩,
    ⟨(some 4), 64, none, .mv (.c (.int .i64 0))⟩])
  .ret)))))))))
theorem fits19 : fits Tryz.prog false Tryz.f19 1 69 [(2, none), (3, none), (4, none)] = some c19.er := by kernel_rfl
def cntC (W : List (List (List UInt8))) : Nat := (W.filter cntd).length
theorem cntC_le (W : List (List (List UInt8))) : cntC W ≤ W.length := List.length_filter_le _ _
theorem cntC_drop {W : List (List (List UInt8))} {i : Nat} (h : i < W.length) : cntC (W.take (i + 1)) = cntC (W.take i) + if cntd (W.getD i default) = true then 1 else 0 := by
  have : W.take (i + 1) = W.take i ++ [W.getD i default] := by rw [List.take_add_one, getD_some h]; rfl
  unfold cntC
  rw [this, List.filter_append, List.length_append]
  generalize W.getD i default = x
  cases h : cntd x <;> simp [h]
def parR : Int → List (List (List UInt8)) → List Cd → List Cd × Int × Int
  | _, [], out => (out, 0, 0)
  | i, w :: r, out => if cntd w = false then parR (i + 1) r out else if (lineR w).2 = false then ([], i + 1, 7) else if oneC (lineR w).1 ≠ 0 then ([], i + 1, oneC (lineR w).1) else parR (i + 1) r (out ++ [(lineR w).1])
def parseR (s : List UInt8) : List Cd × Int × Int := if 65536 < s.length then ([], 0, 10) else if 200 < cntC (linesW s) then ([], 0, 10) else parR 0 (linesW s) []
theorem parR_drop {W : List (List (List UInt8))} {i : Nat} (out : List Cd) (h : i < W.length) : parR (i : Int) (W.drop i) out = if cntd (W.getD i default) = false then parR ((i : Int) + 1) (W.drop (i + 1)) out else if (lineR (W.getD i default)).2 = false then ([], (i : Int) + 1, 7) else
    if oneC (lineR (W.getD i default)).1 ≠ 0 then ([], (i : Int) + 1, oneC (lineR (W.getD i default)).1) else parR ((i : Int) + 1) (W.drop (i + 1)) (out ++ [(lineR (W.getD i default)).1]) := by
  rw [List.drop_eq_getElem_cons h]
  have : W.getD i default = W[i] := by simp [List.getD, h]
  rw [this]; rfl
set_option maxRecDepth 100000 in
set_option maxHeartbeats 8000000 in
theorem call19 (s : List UInt8) (hs : s.length ≤ 4611686018427387904) : PureCall Tryz.prog 19 [.str s] [] ⟨.tup [.sl 0 7 (parseR s).1.length (fl eCd (parseR s).1), .int .i64 (parseR s).2.1, .int .i64 (parseR s).2.2], [], []⟩ := by
  refine pure_call mix Tryz.func19 fits19 rfl ?_
  conv => whnf
  refine ⟨?_, fun hc => ?_, fun hc => ?_⟩
  · exact g0
  · simp only [bp] at hc
    rw [show parseR s = ([], 0, 10) by unfold parseR; rw [if_pos (by omega)]]
    conv => whnf
    exact ret
  simp only [bp] at hc
  have hs2 : s.length ≤ 65536 := by omega
  have hSP : splitP isNl s = splitC 10 s := (splitC_P 10 s).symm
  obtain ⟨L, hL⟩ : ∃ L, L = splitC 10 s := ⟨_, rfl⟩
  obtain ⟨W, hW⟩ : ∃ W, W = linesW s := ⟨_, rfl⟩
  have hWl : W.length = L.length := by rw [hW, hL, linesW_len]
  have hLl : L.length ≤ 65537 := by have := (splitC_len 10 s).1; rw [← hL] at this; omega
  have hWg : ∀ i, i < L.length → W.getD i default = wordsB isBl (L.getD i default) := fun i hi => by
    rw [hW, linesW_getD (by rw [← hL]; exact hi), hL]
  have hLm : ∀ i, i < L.length → (L.getD i default).length ≤ 65536 := fun i hi => by
    have := (splitC_len 10 s).2 (L.getD i default) (by rw [← hL]; exact getD_mem hi); omega
  have hWm : ∀ i, i < L.length → wLens (W.getD i default) := fun i hi => by
    rw [hW]; exact linesW_lens hs2 _ (getD_mem (by rw [← hW]; omega))
  have hWo : ∀ i, i < L.length → ∀ x ∈ W.getD i default, WordOK isBl x := fun i hi => by
    rw [hWg i hi]; exact words_ok isBl _
  conv => whnf
  refine ⟨_, fun _ => call39 s hs2, ?_⟩
  rw [show parseR s = (if 65536 < s.length then ([], 0, 10) else if 200 < cntC (linesW s) then ([], 0, 10) else parR 0 (linesW s) []) from rfl, if_neg (by omega), hSP, ← hL, ← hW]
  conv => whnf
  refine ⟨?_, ?_⟩
  · exact g0
  refine LSem.loop (n := 69) mix (α := Nat) (fun i => i ≤ L.length)
    (fun i => [(5, .os 320), (6, .int .i64 (cntC (W.take i))), (21, .os 320), (22, .int .i64 L.length), (23, .int .i64 i)])
    (fun i => [(320, .row 0 9 1 L.length (fl eStr L))]) (fun i => L.length - i) 0 ?_ ?_ ?_
  · exact Nat.zero_le _
  · refine ⟨rfl, rfl, ?_, ?_⟩ <;> exact ent
  · intro i hi
    have hj : ((i : Int)).toNat = i := by omega
    conv => whnf
    refine ⟨trivial, fun hc => ?_, fun hc => ?_⟩
    · replace hc := of_decide_eq_true hc
      have hlt : i < L.length := by
        have h : (i : Int) < L.length := hc
        omega
      have hcd := cntC_drop (W := W) (i := i) (by omega)
      have hcl := cntC_le (W.take i)
      have htl : (W.take i).length = i := by rw [List.length_take]; omega
      have hWi := hWg i hlt
      conv => whnf
      rw [hj]
      refine ⟨_, fun _ => call12 (L.getD i default) (hLm i hlt), ?_⟩
      rw [← hWi]
      conv => whnf
      refine ⟨_, fun _ => call40 2 (W.getD i default) (hWo i hlt), ?_⟩
      conv => whnf
      refine ⟨?_, fun h => ?_, fun h => ?_⟩
      · exact g0
      · rw [if_pos h] at hcd
        conv => whnf
        refine ⟨?_, i + 1, hlt, by omega, rfl, rfl, ?_, ?_⟩
        · exact g0
        · exact ent
        · exact ent
      · rw [if_neg (by rw [h]; decide)] at hcd
        conv => whnf
        refine ⟨?_, i + 1, hlt, by omega, rfl, rfl, ?_, ?_⟩
        · exact g0
        · exact ent
        · exact ent
    · replace hc := of_decide_eq_false hc
      have hk : i = L.length := by
        have h : ¬ (i : Int) < L.length := hc
        omega
      subst hk
      rw [← hWl, List.take_length]
      conv => whnf
      refine ⟨trivial, fun h => ?_, fun h => ?_⟩
      · simp only [bp] at h
        rw [if_pos (by omega)]
        conv => whnf
        exact ret
      simp only [bp] at h
      rw [if_neg (by omega)]
      clear h hc
      conv => whnf
      refine ⟨trivial, ?_⟩
      refine LSem.adopt 9 1000000 49 7 7 rfl rfl ?_
      refine LSem.loop (n := 69) mix (α := Nat × List Cd) (fun x => x.1 ≤ L.length ∧ x.2.length ≤ x.1 ∧ parR (x.1 : Int) (W.drop x.1) x.2 = parR 0 W [])
        (fun x => [(9, .os 1000000), (35, .os 320), (36, .int .i64 L.length), (37, .int .i64 x.1)])
        (fun x => [(1000000, .row 0 49 7 x.2.length (fl eCd x.2)), (320, .row 0 9 1 L.length (fl eStr L))]) (fun x => L.length - x.1) (0, []) ?_ ?_ ?_
      · exact ⟨Nat.zero_le _, Nat.le_refl _, rfl⟩
      · refine ⟨rfl, rfl, ?_, ?_⟩ <;> exact ent
      · rintro ⟨i, out⟩ ⟨hi, ho, hp⟩
        dsimp only at hi ho hp
        have hj : ((i : Int)).toNat = i := by omega
        conv => whnf
        refine ⟨trivial, fun hc3 => ?_, fun hc3 => ?_⟩
        · replace hc3 := of_decide_eq_true hc3
          have hlt : i < L.length := by
            have h : (i : Int) < L.length := hc3
            omega
          have hw := hWm i hlt
          have hWi := hWg i hlt
          rw [parR_drop out (by omega)] at hp
          conv => whnf
          dsimp only
          rw [hj]
          refine ⟨_, fun _ => call12 (L.getD i default) (hLm i hlt), ?_⟩
          rw [← hWi]
          conv => whnf
          refine ⟨_, fun _ => call40 2 (W.getD i default) (hWo i hlt), ?_⟩
          conv => whnf
          refine ⟨?_, fun h => ?_, fun h => ?_⟩
          · exact g0
          · simp only [bp] at h
            rw [if_pos h] at hp
            conv => whnf
            refine ⟨?_, (i + 1, out), ⟨hlt, by dsimp only; omega, hp⟩, ?_, rfl, rfl, ?_, ?_⟩
            · exact g0
            · dsimp only; omega
            · exact ent
            · exact ent
          simp only [bp] at h
          rw [if_neg (by rw [h]; decide)] at hp
          conv => whnf
          refine ⟨_, fun _ => call41 (W.getD i default) hw, ?_⟩
          generalize lineR (W.getD i default) = R at hp ⊢
          conv => whnf
          refine ⟨?_, fun h1 => ?_, fun h1 => ?_⟩
          · exact g0
          · simp only [bp] at h1
            rw [if_pos h1] at hp
            rw [← hp]
            conv => whnf
            exact ret
          simp only [bp] at h1
          rw [if_neg (by rw [h1]; decide)] at hp
          conv => whnf
          refine ⟨_, fun _ => call42 R.1, ?_⟩
          conv => whnf
          refine ⟨?_, fun h2 => ?_, fun h2 => ?_⟩
          · exact g0
          · simp only [bp] at h2
            rw [if_pos h2] at hp
            rw [← hp]
            conv => whnf
            exact ret
          · simp only [bp] at h2
            rw [if_neg (by omega)] at hp
            have q := fl_push eCd out R.1
            conv => whnf
            refine ⟨?_, (i + 1, out ++ [R.1]), ⟨hlt, by dsimp only; rw [List.length_append]; simp only [List.length_cons, List.length_nil]; omega, hp⟩, ?_, rfl, rfl, ?_, ?_⟩
            · exact g0
            · dsimp only; omega
            · exact ent
            · exact ent
        · replace hc3 := of_decide_eq_false hc3
          have hk : i = L.length := by
            have h : ¬ (i : Int) < L.length := hc3
            omega
          subst hk
          rw [← hWl, List.drop_length] at hp
          have hp2 : (out, (0 : Int), (0 : Int)) = parR 0 W [] := hp
          rw [← hp2]
          conv => whnf
          exact ret
end Pv
end Go.Proofs.YtknidebojogodaaGreatDoor
/- LAW 13, THE WALKS: conditions as text, second form. -/
set_option linter.unusedSimpArgs false
set_option linter.unusedVariables false
namespace Go.Proofs.YtknidebojogodaaGreatDoor
namespace Pv
def c10L1 : C := (.seq (.reg [⟨(some 16), 256, none, .bi false .lss (.t 15) (.t 14)⟩])
  (.seq (.cond (.t 16) .skip (.exit 0))
  (.seq (.block 1 (.seq (.reg [⟨(some 17), 272, none, .ia 7 (.t 13) (.t 15)⟩,
    ⟨(some 18), 288, none, .ld 7 true (.t 17)⟩,
    ⟨(some 7), 112, none, .al [(.int .i64 0), (.int .i64 0), (.int .i64 0), (.int .i64 0), (.int .i64 0), (.int .i64 0), (.int .i64 0)]⟩,
    ⟨none, 0, none, .st 7 (.t 7) (.t 18)⟩])
  (.seq (.drw [⟨(some 19), 304, none, .mv (.t 5)⟩,
    ⟨(some 20), 320, none, .fa 0 (.t 7)⟩,
    ⟨(some 21), 336, none, .ld 1 false (.t 20)⟩,
    ⟨(some 22), 352, none, .call (.c (.fn (.func 27) [] [])) [(.t 21)]⟩,
    ⟨(some 23), 368, none, .bi false .add (.c (.str [114, 97, 110, 107, 32])) (.t 22)⟩,
    ⟨(some 24), 384, none, .bi false .add (.t 23) (.c (.str [32]))⟩,
    ⟨(some 25), 400, none, .fa 1 (.t 7)⟩,
    ⟨(some 26), 416, none, .ld 1 false (.t 25)⟩,
    ⟨(some 27), 432, none, .call (.c (.fn (.func 14) [] [])) [(.t 26)]⟩,
    ⟨(some 28), 448, none, .bi false .add (.t 24) (.t 27)⟩,
    ⟨(some 29), 464, none, .bi false .add (.t 28) (.c (.str [32]))⟩,
    ⟨(some 30), 480, none, .fa 2 (.t 7)⟩,
    ⟨(some 31), 496, none, .ld 1 false (.t 30)⟩,
    ⟨(some 32), 512, none, .call (.c (.fn (.func 27) [] [])) [(.t 31)]⟩,
    ⟨(some 33), 528, none, .bi false .add (.t 29) (.t 32)⟩,
    ⟨(some 34), 544, none, .bi false .add (.t 19) (.t 33)⟩,
    ⟨(some 5), 80, none, .mv (.t 34)⟩]
    [(0, 1, 19), (0, 2, 19), (0, 3, 19), (0, 4, 19), (0, 5, 19), (0, 6, 19), (0, 7, 19), (0, 8, 19), (0, 9, 19), (0, 10, 19), (0, 11, 19), (0, 12, 19), (0, 13, 19), (0, 14, 19), (1, 6, 20), (1, 7, 20), (1, 11, 20), (1, 12, 20), (2, 6, 21), (2, 7, 21), (2, 11, 21), (2, 12, 21), (3, 6, 22), (3, 7, 22), (3, 11, 22), (3, 12, 22), (4, 6, 23), (4, 7, 23), (4, 8, 23), (4, 11, 23), (4, 12, 23), (4, 13, 23), (5, 6, 24), (5, 7, 24), (5, 8, 24), (5, 11, 24), (5, 12, 24), (5, 13, 24), (6, 11, 25), (6, 12, 25), (7, 11, 26), (7, 12, 26), (8, 11, 27), (8, 12, 27), (9, 11, 28), (9, 12, 28), (9, 13, 28), (10, 11, 29), (10, 12, 29), (10, 13, 29)])
  (.cut (.seq (.seq (.reg [⟨(some 35), 560, none, .fa 3 (.t 7)⟩,
    ⟨(some 36), 576, none, .ld 2 true (.t 35)⟩,
    ⟨(some 37), 592, none, .bd [(.int .i64 0), (.int .i64 0)] [(1, 1, (.c (.int .i64 364)))]⟩,
    ⟨(some 38), 608, none, .eqa true [0, 0] (.t 36) (.t 37)⟩])
  (.cond (.t 38) (.drw [⟨(some 39), 624, none, .mv (.t 5)⟩,
    ⟨(some 40), 640, none, .fa 3 (.t 7)⟩,
    ⟨(some 41), 656, none, .fa 0 (.t 40)⟩,
    ⟨(some 42), 672, none, .ld 1 false (.t 41)⟩,
    ⟨(some 43), 688, none, .call (.c (.fn (.func 27) [] [])) [(.t 42)]⟩,
    ⟨(some 44), 704, none, .bi false .add (.c (.str [32, 100, 97, 121, 115, 32])) (.t 43)⟩,
    ⟨(some 45), 720, none, .bi false .add (.t 44) (.c (.str [32]))⟩,
    ⟨(some 46), 736, none, .fa 3 (.t 7)⟩,
    ⟨(some 47), 752, none, .fa 1 (.t 46)⟩,
    ⟨(some 48), 768, none, .ld 1 false (.t 47)⟩,
    ⟨(some 49), 784, none, .call (.c (.fn (.func 27) [] [])) [(.t 48)]⟩,
    ⟨(some 50), 800, none, .bi false .add (.t 45) (.t 49)⟩,
    ⟨(some 51), 816, none, .bi false .add (.t 39) (.t 50)⟩,
    ⟨(some 5), 80, none, .mv (.t 51)⟩]
    [(0, 1, 39), (0, 2, 39), (0, 3, 39), (0, 4, 39), (0, 5, 39), (0, 6, 39), (0, 7, 39), (0, 8, 39), (0, 9, 39), (0, 10, 39), (0, 11, 39), (1, 7, 40), (1, 8, 40), (1, 9, 40), (2, 7, 41), (2, 8, 41), (2, 9, 41), (3, 7, 42), (3, 8, 42), (3, 9, 42), (4, 7, 43), (4, 8, 43), (4, 9, 43), (5, 7, 44), (5, 8, 44), (5, 9, 44), (5, 10, 44), (6, 7, 45), (6, 8, 45), (6, 9, 45), (6, 10, 45)]) .skip))
  (.cut (.seq (.seq (.reg [⟨(some 52), 832, none, .fa 5 (.t 7)⟩,
    ⟨(some 53), 848, none, .ld 1 false (.t 52)⟩,
    ⟨(some 54), 864, none, .bi false .neq (.t 53) (.c (.int .i64 0))⟩])
  (.cond (.t 54) (.reg [⟨(some 55), 880, none, .mv (.t 5)⟩,
    ⟨(some 56), 896, none, .fa 5 (.t 7)⟩,
    ⟨(some 57), 912, none, .ld 1 false (.t 56)⟩,
    ⟨(some 58), 928, none, .call (.c (.fn (.func 27) [] [])) [(.t 57)]⟩,
    ⟨(some 59), 944, none, .bi false .add (.c (.str [32, 97, 98, 111, 118, 101, 32])) (.t 58)⟩,
    ⟨(some 60), 960, none, .bi false .add (.t 55) (.t 59)⟩,
    ⟨(some 5), 80, none, .mv (.t 60)⟩]) .skip))
  (.cut (.seq (.seq (.reg [⟨(some 61), 976, none, .fa 6 (.t 7)⟩,
    ⟨(some 62), 992, none, .ld 1 false (.t 61)⟩,
    ⟨(some 63), 1008, none, .bi false .neq (.t 62) (.c (.int .i64 16777216))⟩])
  (.cond (.t 63) (.reg [⟨(some 64), 1024, none, .mv (.t 5)⟩,
    ⟨(some 65), 1040, none, .fa 6 (.t 7)⟩,
    ⟨(some 66), 1056, none, .ld 1 false (.t 65)⟩,
    ⟨(some 67), 1072, none, .call (.c (.fn (.func 27) [] [])) [(.t 66)]⟩,
    ⟨(some 68), 1088, none, .bi false .add (.c (.str [32, 98, 101, 108, 111, 119, 32])) (.t 67)⟩,
    ⟨(some 69), 1104, none, .bi false .add (.t 64) (.t 68)⟩,
    ⟨(some 5), 80, none, .mv (.t 69)⟩]) .skip))
  (.reg [⟨(some 70), 1120, none, .mv (.t 5)⟩,
    ⟨(some 71), 1136, none, .bi false .add (.t 70) (.c (.str [10]))⟩,
    ⟨(some 5), 80, none, .mv (.t 71)⟩]))))))))))
  (.reg [⟨(some 72), 1152, none, .bi false .add (.t 15) (.c (.int .i64 1))⟩,
    ⟨(some 15), 240, none, .mv (.t 72)⟩]))))
def c10 : C := (.seq (.reg [⟨(some 2), 32, none, .mv (.c (.str []))⟩,
    ⟨(some 3), 48, none, .mv (.c (.int .i64 0))⟩])
  (.seq (.seq (.reg [⟨(some 8), 128, none, .mv (.t 0)⟩,
    ⟨(some 9), 144, none, .call (.c (.fn (.func 30) [] [])) [(.t 8)]⟩,
    ⟨(some 4), 64, none, .mv (.t 9)⟩])
  (.seq (.reg [⟨(some 10), 160, none, .mv (.t 4)⟩,
    ⟨(some 11), 176, none, .bi false .neq (.t 10) (.c (.int .i64 0))⟩])
  (.cond (.t 11) (.seq (.reg [⟨(some 12), 192, none, .mv (.t 4)⟩,
    ⟨(some 2), 32, none, .mv (.c (.str []))⟩,
    ⟨(some 3), 48, none, .mv (.t 12)⟩])
  .ret) .skip)))
  (.seq (.reg [⟨(some 5), 80, none, .mv (.c (.str []))⟩])
  (.seq (.seq (.reg [⟨(some 13), 208, none, .mv (.t 0)⟩,
    ⟨(some 14), 224, none, .len (.t 13)⟩,
    ⟨(some 15), 240, none, .mv (.c (.int .i64 0))⟩])
  (.block 0 (.loop c10L1)))
  (.seq (.reg [⟨(some 73), 1168, none, .mv (.t 5)⟩,
    ⟨(some 2), 32, none, .mv (.t 73)⟩,
    ⟨(some 3), 48, none, .mv (.c (.int .i64 0))⟩])
  .ret)))))
theorem fits10 : fits Tryz.prog false Tryz.f10 1 74 [(2, none), (3, none)] = some c10.er := by kernel_rfl
theorem call10_bad (τ : Nat) (l : List Cd) (hb : limC l ≠ 0) : PureCall Tryz.prog 10 [.sl τ 7 l.length (fl eCd l)] [] ⟨.tup [.str [], .int .i64 (limC l)], [], []⟩ := by
  refine pure_call mix Tryz.func10 fits10 rfl ?_
  conv => whnf
  refine ⟨_, fun _ => call30 _ l, ?_⟩
  generalize limC l = e at hb ⊢
  conv => whnf
  refine ⟨?_, fun hc => ?_, fun hc => ?_⟩
  · exact g0
  · conv => whnf
    exact ret
  · exact absurd (by simpa using hc) hb
set_option maxRecDepth 100000 in
set_option maxHeartbeats 8000000 in
theorem call10 (τ : Nat) (l : List Cd) (hb : limC l = 0) : PureCall Tryz.prog 10 [.sl τ 7 l.length (fl eCd l)] [] ⟨.tup [.str (printC l), .int .i64 0], [], []⟩ := by
  obtain ⟨hl2, hV⟩ := limC_ok hb
  refine pure_call mix Tryz.func10 fits10 rfl ?_
  conv => whnf
  refine ⟨_, fun _ => call30 _ l, ?_⟩
  rw [hb]
  conv => whnf
  refine ⟨?_, fun hc => Bool.noConfusion (show false = true from hc), fun hc => ?_⟩
  · exact g0
  conv => whnf
  refine ⟨trivial, ?_⟩
  refine LSem.loop (n := 74) mix (α := Nat) (fun i => i ≤ l.length)
    (fun i => [(5, .str (printC (l.take i))), (13, .sl τ 7 l.length (fl eCd l)), (14, .int .i64 l.length), (15, .int .i64 i)])
    (fun i => []) (fun i => l.length - i) 0 ?_ ?_ ?_
  · exact Nat.zero_le _
  · refine ⟨rfl, rfl, ?_, ?_⟩ <;> exact ent
  · intro i hi
    have hj : ((i : Int)).toNat = i := by omega
    conv => whnf
    refine ⟨trivial, fun hc => ?_, fun hc => ?_⟩
    · replace hc := of_decide_eq_true hc
      have hlt : i < l.length := by
        have h : (i : Int) < l.length := hc
        omega
      have hpl := printC_len (l := l.take i) fun c hc => hV c (List.mem_of_mem_take hc)
      have hpl2 : (l.take i).length ≤ 200 := by rw [List.length_take]; omega
      have hpt := printC_take hlt
      have hone := hV _ (getD_mem hlt)
      have hpn := parts_len hone
      conv => whnf
      rw [hj]
      generalize l.getD i default = c at hpt hone hpn ⊢
      generalize printC (l.take i) = T at hpl hpt ⊢
      obtain ⟨o1, o2, o3⟩ := oneC_ok hone
      unfold badC at o3
      obtain ⟨p1, p2, p3, p4⟩ := hpn
      have hT : T.length ≤ 50000 := by omega
      have a1 := Lib.itoa_length_le c.r (by omega) (by omega)
      have a2 := Lib.itoa_length_le c.v (by omega) (by omega)
      have a3 := Lib.itoa_length_le c.f (by omega) (by omega)
      have a4 := Lib.itoa_length_le c.u (by omega) (by omega)
      have a5 := Lib.itoa_length_le c.a (by omega) (by omega)
      have a6 := Lib.itoa_length_le c.b (by omega) (by omega)
      have a7 := kindW_len c.k
      refine ⟨_, fun _ => call27 c.r (by omega) (by omega), ?_⟩
      conv => whnf
      refine ⟨_, fun _ => call14 c.k, ?_⟩
      conv => whnf
      refine ⟨_, fun _ => call27 c.v (by omega) (by omega), ?_⟩
      have q : T ++ ((((([114, 97, 110, 107, 32] ++ Lib.itoa c.r) ++ [32]) ++ kindW c.k) ++ [32]) ++ Lib.itoa c.v) = T ++ headT c := by
        congr 1
        simp [headT, putT, wRank]
      conv => whnf
      refine ⟨rfl, ?_⟩
      conv => whnf
      refine ⟨?_, ?_⟩
      · (try conv => whnf)
        simp only [List.length_append, List.length_cons, List.length_nil]
        exact g0
      refine LSem.meet (n := 74) mix (α := Unit) (fun _ => True)
        (fun _ => [(5, .str (T ++ headT c ++ daysT c)), (7, .pt 112 0 0), (13, .sl τ 7 l.length (fl eCd l)), (14, .int .i64 l.length), (15, .int .i64 i)])
        (fun _ => [(112, .box (eCd c))]) ?_ ?_
      · conv => whnf
        by_cases hd : c.f = 0 ∧ c.u = 364
        · have q2 : T ++ ((((([114, 97, 110, 107, 32] ++ Lib.itoa c.r) ++ [32]) ++ kindW c.k) ++ [32]) ++ Lib.itoa c.v) = T ++ headT c ++ daysT c := by unfold daysT; rw [if_pos hd, List.append_nil, q]
          refine ⟨trivial, fun hc => ?_, fun hc => ?_⟩
          · exact absurd hc (by rw [hd.1, hd.2]; decide)
          conv => whnf
          refine ⟨?_, (), trivial, rfl, rfl, ?_, ?_⟩
          · exact g0
          · exact ent
          · exact ent
        · have q2 : T ++ ((((([114, 97, 110, 107, 32] ++ Lib.itoa c.r) ++ [32]) ++ kindW c.k) ++ [32]) ++ Lib.itoa c.v) ++ ((([32, 100, 97, 121, 115, 32] ++ Lib.itoa c.f) ++ [32]) ++ Lib.itoa c.u) = T ++ headT c ++ daysT c := by
            unfold daysT; rw [if_neg hd, q]; simp [putT, wDays]
          refine ⟨trivial, fun hc => ?_, fun hc => ?_⟩
          · conv => whnf
            refine ⟨_, fun _ => call27 c.f (by omega) (by omega), ?_⟩
            conv => whnf
            refine ⟨_, fun _ => call27 c.u (by omega) (by omega), ?_⟩
            conv => whnf
            refine ⟨rfl, ?_⟩
            conv => whnf
            refine ⟨?_, (), trivial, rfl, rfl, ?_, ?_⟩
            · (try conv => whnf)
              simp only [List.length_append, List.length_cons, List.length_nil]
              exact g0
            · exact ent
            · exact ent
          · refine absurd hc fun hc => hd ?_
            replace hc : (!(c.f == 0 && (c.u == 364 && true))) = false := hc
            simpa using hc
      rintro ⟨⟩ -
      have hT3 : (T ++ headT c ++ daysT c).length ≤ 60100 := by rw [List.length_append, List.length_append]; omega
      conv => whnf
      refine ⟨trivial, ?_⟩
      refine LSem.meet (n := 74) mix (α := Unit) (fun _ => True)
        (fun _ => [(5, .str (T ++ headT c ++ daysT c ++ aboveT c)), (7, .pt 112 0 0), (13, .sl τ 7 l.length (fl eCd l)), (14, .int .i64 l.length), (15, .int .i64 i)])
        (fun _ => [(112, .box (eCd c))]) ?_ ?_
      · conv => whnf
        refine ⟨trivial, fun hc => ?_, fun hc => ?_⟩
        · simp only [bp] at hc
          have q3 : T ++ headT c ++ daysT c ++ ([32, 97, 98, 111, 118, 101, 32] ++ Lib.itoa c.a) = T ++ headT c ++ daysT c ++ aboveT c := by unfold aboveT; rw [if_neg hc]; simp [putT, wAbove]
          conv => whnf
          refine ⟨_, fun _ => call27 c.a (by omega) (by omega), ?_⟩
          conv => whnf
          refine ⟨?_, (), trivial, rfl, rfl, ?_, ?_⟩
          · (try conv => whnf)
            simp only [List.length_append, List.length_cons, List.length_nil] at hT3 ⊢
            exact g0
          · exact ent
          · exact ent
        · simp only [bp] at hc
          have q3 : T ++ headT c ++ daysT c = T ++ headT c ++ daysT c ++ aboveT c := by unfold aboveT; rw [if_pos hc, List.append_nil]
          conv => whnf
          refine ⟨?_, (), trivial, rfl, rfl, ?_, ?_⟩
          · exact g0
          · exact ent
          · exact ent
      rintro ⟨⟩ -
      have hT4 : (T ++ headT c ++ daysT c ++ aboveT c).length ≤ 60200 := by rw [List.length_append]; omega
      conv => whnf
      refine ⟨trivial, ?_⟩
      refine LSem.meet (n := 74) mix (α := Unit) (fun _ => True)
        (fun _ => [(5, .str (T ++ headT c ++ daysT c ++ aboveT c ++ belowT c)), (7, .pt 112 0 0), (13, .sl τ 7 l.length (fl eCd l)), (14, .int .i64 l.length), (15, .int .i64 i)])
        (fun _ => [(112, .box (eCd c))]) ?_ ?_
      · conv => whnf
        refine ⟨trivial, fun hc => ?_, fun hc => ?_⟩
        · simp only [bp] at hc
          have q3 : T ++ headT c ++ daysT c ++ aboveT c ++ ([32, 98, 101, 108, 111, 119, 32] ++ Lib.itoa c.b) = T ++ headT c ++ daysT c ++ aboveT c ++ belowT c := by unfold belowT; rw [if_neg hc]; simp [putT, wBelow]
          conv => whnf
          refine ⟨_, fun _ => call27 c.b (by omega) (by omega), ?_⟩
          conv => whnf
          refine ⟨?_, (), trivial, rfl, rfl, ?_, ?_⟩
          · (try conv => whnf)
            simp only [List.length_append, List.length_cons, List.length_nil] at hT4 ⊢
            exact g0
          · exact ent
          · exact ent
        · simp only [bp] at hc
          have q3 : T ++ headT c ++ daysT c ++ aboveT c = T ++ headT c ++ daysT c ++ aboveT c ++ belowT c := by unfold belowT; rw [if_pos hc, List.append_nil]
          conv => whnf
          refine ⟨?_, (), trivial, rfl, rfl, ?_, ?_⟩
          · exact g0
          · exact ent
          · exact ent
      rintro ⟨⟩ -
      have hT5 : (T ++ headT c ++ daysT c ++ aboveT c ++ belowT c).length ≤ 60300 := by rw [List.length_append]; omega
      have q : (T ++ headT c ++ daysT c ++ aboveT c ++ belowT c) ++ [10] = printC (l.take (i + 1)) := by rw [hpt]; simp [lineT]
      conv => whnf
      refine ⟨?_, i + 1, hlt, by omega, rfl, rfl, ?_, ?_⟩
      · exact g0
      · exact ent
      · exact ent
    · replace hc := of_decide_eq_false hc
      have hk : i = l.length := by
        have h : ¬ (i : Int) < l.length := hc
        omega
      subst hk
      rw [List.take_length]
      conv => whnf
      exact ret
end Pv
end Go.Proofs.YtknidebojogodaaGreatDoor
/- LAW 13, THE WALKS: equality of lists of conditions; the example. -/
set_option linter.unusedSimpArgs false
set_option linter.unusedVariables false
namespace Go.Proofs.YtknidebojogodaaGreatDoor
namespace Pv
def c20L1 : C := (.seq (.reg [⟨(some 14), 224, none, .bi false .lss (.t 13) (.t 12)⟩])
  (.seq (.cond (.t 14) .skip (.exit 0))
  (.seq (.block 1 (.seq (.reg [⟨(some 15), 240, none, .mv (.t 13)⟩,
    ⟨(some 5), 80, none, .mv (.t 15)⟩])
  (.seq (.drw [⟨(some 16), 256, none, .mv (.t 0)⟩,
    ⟨(some 17), 272, none, .mv (.t 5)⟩,
    ⟨(some 18), 288, none, .ia 7 (.t 16) (.t 17)⟩,
    ⟨(some 19), 304, none, .ld 7 true (.t 18)⟩,
    ⟨(some 20), 320, none, .mv (.t 1)⟩,
    ⟨(some 21), 336, none, .mv (.t 5)⟩,
    ⟨(some 22), 352, none, .ia 7 (.t 20) (.t 21)⟩,
    ⟨(some 23), 368, none, .ld 7 true (.t 22)⟩,
    ⟨(some 24), 384, none, .eqa true [0, 0, 0, 0, 0, 0, 0] (.t 19) (.t 23)⟩]
    [(0, 1, 16), (0, 4, 16), (0, 5, 16), (0, 6, 16), (0, 7, 16), (1, 4, 17), (1, 5, 17), (1, 6, 17), (1, 7, 17), (2, 4, 18), (2, 5, 18), (2, 6, 18), (2, 7, 18), (3, 4, 19), (3, 5, 19), (3, 6, 19), (3, 7, 19), (4, 5, 20)])
  (.cond (.t 24) (.seq (.reg [⟨(some 4), 64, none, .mv (.c (.bool false))⟩])
  .ret) .skip))))
  (.reg [⟨(some 25), 400, none, .bi false .add (.t 13) (.c (.int .i64 1))⟩,
    ⟨(some 13), 208, none, .mv (.t 25)⟩]))))
def c20 : C := (.seq (.reg [⟨(some 4), 64, none, .mv (.c (.bool false))⟩])
  (.seq (.seq (.reg [⟨(some 6), 96, none, .mv (.t 0)⟩,
    ⟨(some 7), 112, none, .len (.t 6)⟩,
    ⟨(some 8), 128, none, .mv (.t 1)⟩,
    ⟨(some 9), 144, none, .len (.t 8)⟩,
    ⟨(some 10), 160, none, .bi false .neq (.t 7) (.t 9)⟩])
  (.cond (.t 10) (.seq (.reg [⟨(some 4), 64, none, .mv (.c (.bool false))⟩])
  .ret) .skip))
  (.seq (.seq (.reg [⟨(some 11), 176, none, .mv (.t 0)⟩,
    ⟨(some 12), 192, none, .len (.t 11)⟩,
    ⟨(some 13), 208, none, .mv (.c (.int .i64 0))⟩])
  (.block 0 (.loop c20L1)))
  (.seq (.reg [⟨(some 4), 64, none, .mv (.c (.bool true))⟩])
  .ret))))
theorem fits20 : fits Tryz.prog false Tryz.f20 2 26 [(4, none)] = some c20.er := by kernel_rfl
def c6 : C := (.seq (.reg [⟨(some 0), 0, none, .mv (.c (.bool false))⟩])
  (.seq (.reg [⟨(some 5), 80, none, .call (.c (.fn (.func 18) [] [])) [(.c (.str [114, 97, 110, 107, 32, 51, 32, 108, 101, 97, 115, 116, 32, 49, 50, 48, 32, 97, 98, 111, 118, 101, 32, 53, 48, 48, 48, 32, 100, 97, 121, 115, 32, 54, 48, 32, 49, 53, 48]))]⟩,
    ⟨(some 4), 64, none, .mv (.t 5)⟩,
    ⟨(some 6), 96, none, .ex (.t 4) 0⟩,
    ⟨(some 7), 112, none, .ex (.t 4) 1⟩,
    ⟨(some 8), 128, none, .ex (.t 4) 2⟩,
    ⟨(some 1), 16, none, .mv (.t 6)⟩,
    ⟨(some 2), 32, none, .mv (.t 7)⟩,
    ⟨(some 3), 48, none, .mv (.t 8)⟩])
  (.seq (.reg [⟨(some 9), 144, none, .mv (.t 3)⟩,
    ⟨(some 10), 160, none, .bi false .eql (.t 9) (.c (.int .i64 0))⟩,
    ⟨(some 11), 176, none, .mv (.t 10)⟩,
    ⟨(some 12), 192, (some (11, true)), .mv (.t 2)⟩,
    ⟨(some 13), 208, (some (11, true)), .bi false .eql (.t 12) (.c (.int .i64 0))⟩,
    ⟨(some 14), 224, none, .pick (.t 11) (.t 13) (.c (.bool false))⟩,
    ⟨(some 15), 240, none, .mv (.t 14)⟩,
    ⟨(some 16), 256, (some (15, true)), .mv (.t 1)⟩,
    ⟨(some 17), 272, (some (15, true)), .len (.t 16)⟩,
    ⟨(some 18), 288, (some (15, true)), .bi false .eql (.t 17) (.c (.int .i64 1))⟩,
    ⟨(some 19), 304, none, .pick (.t 15) (.t 18) (.c (.bool false))⟩,
    ⟨(some 20), 320, none, .mv (.t 19)⟩,
    ⟨(some 21), 336, (some (20, true)), .mv (.t 1)⟩,
    ⟨(some 22), 352, (some (20, true)), .ia 7 (.t 21) (.c (.int .i64 0))⟩,
    ⟨(some 23), 368, (some (20, true)), .ld 7 true (.t 22)⟩,
    ⟨(some 24), 384, (some (20, true)), .bd [(.int .i64 0), (.int .i64 0)] [(0, 1, (.c (.int .i64 60))), (1, 1, (.c (.int .i64 150)))]⟩,
    ⟨(some 25), 400, (some (20, true)), .bd [(.int .i64 0), (.int .i64 0), (.int .i64 0), (.int .i64 0), (.int .i64 0), (.int .i64 0), (.int .i64 0)] [(0, 1, (.c (.int .i64 3))), (1, 1, (.c (.int .i64 1))), (2, 1, (.c (.int .i64 120))), (3, 2, (.t 24)), (5, 1, (.c (.int .i64 5000))), (6, 1, (.c (.int .i64 16777216)))]⟩,
    ⟨(some 26), 416, (some (20, true)), .eqa false [0, 0, 0, 0, 0, 0, 0] (.t 23) (.t 25)⟩,
    ⟨(some 27), 432, none, .pick (.t 20) (.t 26) (.c (.bool false))⟩,
    ⟨(some 28), 448, none, .mv (.t 27)⟩,
    ⟨(some 29), 464, (some (28, true)), .call (.c (.fn (.func 13) [] [])) [(.c (.int .i64 4))]⟩,
    ⟨(some 30), 480, (some (28, true)), .bi false .eql (.t 29) (.c (.str [100, 111, 119, 110]))⟩,
    ⟨(some 31), 496, none, .pick (.t 28) (.t 30) (.c (.bool false))⟩,
    ⟨(some 0), 0, none, .mv (.t 31)⟩])
  .ret)))
theorem fits6 : fits Tryz.prog false Tryz.f6 0 32 [(0, none)] = some c6.er := by kernel_rfl
theorem eq_cd (x y : Cd) : ((x.r == y.r) && ((x.k == y.k) && ((x.v == y.v) && ((x.f == y.f) && ((x.u == y.u) && ((x.a == y.a) && ((x.b == y.b) && true))))))) = decide (x = y) := by
  rw [Bool.eq_iff_iff]
  obtain ⟨a1, a2, a3, a4, a5, a6, a7⟩ := x
  obtain ⟨b1, b2, b3, b4, b5, b6, b7⟩ := y
  simp [and_assoc]
theorem list_ext_getD {α : Type} [Inhabited α] {a b : List α} (hl : a.length = b.length) (h : ∀ i, i < a.length → a.getD i default = b.getD i default) : a = b := by
  apply List.ext_getElem hl
  intro i h1 h2
  have := h i h1
  simpa [List.getD, h1, h2] using this
set_option maxRecDepth 100000 in
theorem call20 (τ τ' : Nat) (a b : List Cd) (ha : a.length ≤ 4611686018427387904) : PureCall Tryz.prog 20 [.sl τ 7 a.length (fl eCd a), .sl τ' 7 b.length (fl eCd b)] [] ⟨.bool (decide (a = b)), [], []⟩ := by
  refine pure_call mix Tryz.func20 fits20 rfl ?_
  conv => whnf
  refine ⟨trivial, fun hc => ?_, fun hc => ?_⟩
  · simp only [bp] at hc
    rw [decide_eq_false (p := a = b) (fun e => hc (by rw [e]))]
    conv => whnf
    exact ret
  simp only [bp] at hc
  have hl : a.length = b.length := by omega
  conv => whnf
  refine ⟨trivial, ?_⟩
  refine LSem.loop (n := 26) mix (α := Nat) (fun i => i ≤ a.length ∧ ∀ k, k < i → a.getD k default = b.getD k default)
    (fun i => [(0, .sl τ 7 a.length (fl eCd a)), (1, .sl τ' 7 b.length (fl eCd b)), (12, .int .i64 a.length), (13, .int .i64 i)])
    (fun i => []) (fun i => a.length - i) 0 ?_ ?_ ?_
  · exact ⟨Nat.zero_le _, fun k hk => absurd hk (Nat.not_lt_zero _)⟩
  · refine ⟨rfl, rfl, ?_, ?_⟩ <;> exact ent
  · rintro i ⟨hi, hall⟩
    have hj : ((i : Int)).toNat = i := by omega
    conv => whnf
    refine ⟨trivial, fun hc => ?_, fun hc => ?_⟩
    · replace hc := of_decide_eq_true hc
      have hlt : i < a.length := by
        have h : (i : Int) < a.length := hc
        omega
      conv => whnf
      rw [hj]
      refine ⟨rfl, ?_⟩
      conv => whnf
      have hE := eq_cd (a.getD i default) (b.getD i default)
      refine ⟨?_, fun h => ?_, fun h => ?_⟩
      · exact g0
      · replace h : (!((a.getD i default).r == (b.getD i default).r && ((a.getD i default).k == (b.getD i default).k && ((a.getD i default).v == (b.getD i default).v && ((a.getD i default).f == (b.getD i default).f && ((a.getD i default).u == (b.getD i default).u && ((a.getD i default).a == (b.getD i default).a && ((a.getD i default).b == (b.getD i default).b && true)))))))) = true := h
        rw [hE] at h
        rw [decide_eq_false (p := a = b) (fun e => by rw [e] at h; simp at h)]
        conv => whnf
        exact ret
      · replace h : (!((a.getD i default).r == (b.getD i default).r && ((a.getD i default).k == (b.getD i default).k && ((a.getD i default).v == (b.getD i default).v && ((a.getD i default).f == (b.getD i default).f && ((a.getD i default).u == (b.getD i default).u && ((a.getD i default).a == (b.getD i default).a && ((a.getD i default).b == (b.getD i default).b && true)))))))) = false := h
        rw [hE] at h
        have he : a.getD i default = b.getD i default := by
          generalize a.getD i default = x at h ⊢
          generalize b.getD i default = y at h ⊢
          simpa using h
        conv => whnf
        refine ⟨?_, i + 1, ⟨hlt, fun k hk => ?_⟩, by omega, rfl, rfl, ?_, ?_⟩
        · exact g0
        · by_cases e : k = i
          · rw [e]; exact he
          · exact hall k (by omega)
        · exact ent
        · exact ent
    · replace hc := of_decide_eq_false hc
      have hk : i = a.length := by
        have h : ¬ (i : Int) < a.length := hc
        omega
      subst hk
      rw [decide_eq_true (p := a = b) (list_ext_getD hl hall)]
      conv => whnf
      exact ret
theorem awake_text : parseG [114, 97, 110, 107, 32, 51, 32, 108, 101, 97, 115, 116, 32, 49, 50, 48, 32, 97, 98, 111, 118, 101, 32, 53, 48, 48, 48, 32, 100, 97, 121, 115, 32, 54, 48, 32, 49, 53, 48] = ([⟨3, 1, 120, 60, 150, 5000, 16777216⟩], 0, 0) := by decide +kernel
set_option maxRecDepth 100000 in
theorem call6 : PureCall Tryz.prog 6 [] [] ⟨.bool true, [], []⟩ := by
  refine pure_call mix Tryz.func6 fits6 rfl ?_
  have h := call18 [114, 97, 110, 107, 32, 51, 32, 108, 101, 97, 115, 116, 32, 49, 50, 48, 32, 97, 98, 111, 118, 101, 32, 53, 48, 48, 48, 32, 100, 97, 121, 115, 32, 54, 48, 32, 49, 53, 48] (by decide)
  rw [awake_text] at h
  conv => whnf
  refine ⟨_, fun _ => h, ?_⟩
  conv => whnf
  refine ⟨_, fun _ => call13 4, ?_⟩
  conv => whnf
  refine ⟨?_, [], ?_⟩
  · exact g0
  conv => whnf
  refine ⟨rfl, ?_, trivial, trivial⟩
  exact ent
end Pv
end Go.Proofs.YtknidebojogodaaGreatDoor
/- LAW 13: RulesPrint answers true. -/
set_option linter.unusedSimpArgs false
set_option linter.unusedVariables false
namespace Go.Proofs.YtknidebojogodaaGreatDoor
namespace Pv
def c3L1 : C := (.seq (.reg [⟨(some 34), 544, none, .bi false .lss (.t 33) (.t 32)⟩])
  (.seq (.cond (.t 34) .skip (.exit 0))
  (.seq (.block 1 (.seq (.reg [⟨(some 35), 560, none, .ia 1 (.t 31) (.t 33)⟩,
    ⟨(some 36), 576, none, .ld 1 false (.t 35)⟩,
    ⟨(some 10), 160, none, .mv (.t 36)⟩])
  (.seq (.reg [⟨(some 38), 608, none, .mv (.t 10)⟩,
    ⟨(some 39), 624, none, .call (.c (.fn (.func 9) [] [])) [(.t 38)]⟩,
    ⟨(some 37), 592, none, .mv (.t 39)⟩,
    ⟨(some 40), 640, none, .ex (.t 37) 0⟩,
    ⟨(some 41), 656, none, .ex (.t 37) 1⟩,
    ⟨(some 11), 176, none, .mv (.t 40)⟩,
    ⟨(some 12), 192, none, .mv (.t 41)⟩])
  (.seq (.reg [⟨(some 43), 688, none, .mv (.t 10)⟩,
    ⟨(some 44), 704, none, .call (.c (.fn (.func 10) [] [])) [(.t 43)]⟩,
    ⟨(some 42), 672, none, .mv (.t 44)⟩,
    ⟨(some 45), 720, none, .ex (.t 42) 0⟩,
    ⟨(some 46), 736, none, .ex (.t 42) 1⟩,
    ⟨(some 13), 208, none, .mv (.t 45)⟩,
    ⟨(some 14), 224, none, .mv (.t 46)⟩])
  (.seq (.reg [⟨(some 47), 752, none, .mv (.t 12)⟩,
    ⟨(some 48), 768, none, .mv (.t 14)⟩,
    ⟨(some 49), 784, none, .bi false .neq (.t 47) (.t 48)⟩,
    ⟨(some 50), 800, none, .mv (.t 49)⟩,
    ⟨(some 51), 816, (some (50, false)), .mv (.t 11)⟩,
    ⟨(some 52), 832, (some (50, false)), .mv (.t 13)⟩,
    ⟨(some 53), 848, (some (50, false)), .bi false .neq (.t 51) (.t 52)⟩,
    ⟨(some 54), 864, none, .pick (.t 50) (.c (.bool true)) (.t 53)⟩])
  (.cond (.t 54) (.seq (.reg [⟨(some 8), 128, none, .mv (.c (.bool false))⟩])
  .ret) .skip))))))
  (.reg [⟨(some 55), 880, none, .bi false .add (.t 33) (.c (.int .i64 1))⟩,
    ⟨(some 33), 528, none, .mv (.t 55)⟩]))))
def c3L2 : C := (.seq (.reg [⟨(some 68), 1088, none, .bi false .lss (.t 67) (.t 66)⟩])
  (.seq (.cond (.t 68) .skip (.exit 2))
  (.seq (.block 3 (.seq (.reg [⟨(some 69), 1104, none, .mv (.t 67)⟩,
    ⟨(some 17), 272, none, .mv (.t 69)⟩])
  (.seq (.drw [⟨(some 70), 1120, none, .mv (.t 15)⟩,
    ⟨(some 71), 1136, none, .mv (.t 17)⟩,
    ⟨(some 72), 1152, none, .ia 1 (.t 70) (.t 71)⟩,
    ⟨(some 73), 1168, none, .ld 1 false (.t 72)⟩,
    ⟨(some 74), 1184, none, .mv (.t 16)⟩,
    ⟨(some 75), 1200, none, .mv (.t 17)⟩,
    ⟨(some 76), 1216, none, .ia 1 (.t 74) (.t 75)⟩,
    ⟨(some 77), 1232, none, .ld 1 false (.t 76)⟩,
    ⟨(some 78), 1248, none, .bi false .neq (.t 73) (.t 77)⟩]
    [(0, 1, 70), (0, 4, 70), (0, 5, 70), (0, 6, 70), (0, 7, 70), (1, 4, 71), (1, 5, 71), (1, 6, 71), (1, 7, 71), (2, 4, 72), (2, 5, 72), (2, 6, 72), (2, 7, 72), (3, 4, 73), (3, 5, 73), (3, 6, 73), (3, 7, 73), (4, 5, 74)])
  (.cond (.t 78) (.seq (.reg [⟨(some 8), 128, none, .mv (.c (.bool false))⟩])
  .ret) .skip))))
  (.reg [⟨(some 79), 1264, none, .bi false .add (.t 67) (.c (.int .i64 1))⟩,
    ⟨(some 67), 1072, none, .mv (.t 79)⟩]))))
def c3 : C := (.seq (.reg [⟨(some 8), 128, none, .mv (.c (.bool false))⟩])
  (.seq (.seq (.reg [⟨(some 18), 288, none, .mv (.t 0)⟩,
    ⟨(some 19), 304, none, .len (.t 18)⟩,
    ⟨(some 20), 320, none, .bi false .gtr (.t 19) (.c (.int .i64 210))⟩,
    ⟨(some 21), 336, none, .mv (.t 20)⟩,
    ⟨(some 22), 352, (some (21, false)), .mv (.t 2)⟩,
    ⟨(some 23), 368, (some (21, false)), .lens (.t 22)⟩,
    ⟨(some 24), 384, (some (21, false)), .bi false .gtr (.t 23) (.c (.int .i64 2000))⟩,
    ⟨(some 25), 400, none, .pick (.t 21) (.c (.bool true)) (.t 24)⟩])
  (.cond (.t 25) (.seq (.reg [⟨(some 26), 416, none, .call (.c (.fn (.func 6) [] [])) []⟩,
    ⟨(some 8), 128, none, .mv (.t 26)⟩])
  .ret) .skip))
  (.seq (.seq (.reg [⟨(some 27), 432, none, .mv (.t 1)⟩,
    ⟨(some 28), 448, none, .call (.c (.fn (.func 8) [] [])) [(.t 27)]⟩,
    ⟨(some 29), 464, none, .call (.c (.fn (.func 7) [] [])) [(.t 28)]⟩,
    ⟨(some 30), 480, none, .mv (.t 0)⟩,
    ⟨(some 31), 496, none, .bs 22 1 [(.t 29), (.t 30)]⟩,
    ⟨(some 32), 512, none, .len (.t 31)⟩,
    ⟨(some 33), 528, none, .mv (.c (.int .i64 0))⟩])
  (.block 0 (.loop c3L1)))
  (.seq (.reg [⟨(some 56), 896, none, .mv (.t 2)⟩,
    ⟨(some 57), 912, none, .call (.c (.fn (.func 11) [] [])) [(.t 56)]⟩,
    ⟨(some 58), 928, none, .mv (.t 2)⟩,
    ⟨(some 59), 944, none, .call (.c (.fn (.func 12) [] [])) [(.t 58)]⟩,
    ⟨(some 15), 240, none, .mv (.t 57)⟩,
    ⟨(some 16), 256, none, .mv (.t 59)⟩])
  (.seq (.seq (.reg [⟨(some 60), 960, none, .mv (.t 15)⟩,
    ⟨(some 61), 976, none, .len (.t 60)⟩,
    ⟨(some 62), 992, none, .mv (.t 16)⟩,
    ⟨(some 63), 1008, none, .len (.t 62)⟩,
    ⟨(some 64), 1024, none, .bi false .neq (.t 61) (.t 63)⟩])
  (.cond (.t 64) (.seq (.reg [⟨(some 8), 128, none, .mv (.c (.bool false))⟩])
  .ret) .skip))
  (.seq (.seq (.reg [⟨(some 65), 1040, none, .mv (.t 15)⟩,
    ⟨(some 66), 1056, none, .len (.t 65)⟩,
    ⟨(some 67), 1072, none, .mv (.c (.int .i64 0))⟩])
  (.block 2 (.loop c3L2)))
  (.seq (.reg [⟨(some 80), 1280, none, .mv (.t 3)⟩,
    ⟨(some 81), 1296, none, .call (.c (.fn (.func 13) [] [])) [(.t 80)]⟩,
    ⟨(some 82), 1312, none, .mv (.t 3)⟩,
    ⟨(some 83), 1328, none, .call (.c (.fn (.func 14) [] [])) [(.t 82)]⟩,
    ⟨(some 84), 1344, none, .bi false .eql (.t 81) (.t 83)⟩,
    ⟨(some 85), 1360, none, .mv (.t 84)⟩,
    ⟨(some 86), 1376, (some (85, true)), .mv (.t 3)⟩,
    ⟨(some 87), 1392, (some (85, true)), .call (.c (.fn (.func 15) [] [])) [(.t 86), (.c (.int .i64 6))]⟩,
    ⟨(some 88), 1408, (some (85, true)), .call (.c (.fn (.func 13) [] [])) [(.t 87)]⟩,
    ⟨(some 89), 1424, (some (85, true)), .mv (.t 3)⟩,
    ⟨(some 90), 1440, (some (85, true)), .call (.c (.fn (.func 15) [] [])) [(.t 89), (.c (.int .i64 6))]⟩,
    ⟨(some 91), 1456, (some (85, true)), .call (.c (.fn (.func 14) [] [])) [(.t 90)]⟩,
    ⟨(some 92), 1472, (some (85, true)), .bi false .eql (.t 88) (.t 91)⟩,
    ⟨(some 93), 1488, none, .pick (.t 85) (.t 92) (.c (.bool false))⟩,
    ⟨(some 94), 1504, none, .mv (.t 93)⟩,
    ⟨(some 95), 1520, (some (94, true)), .call (.c (.fn (.func 6) [] [])) []⟩,
    ⟨(some 96), 1536, none, .pick (.t 94) (.t 95) (.c (.bool false))⟩,
    ⟨(some 8), 128, none, .mv (.t 96)⟩])
  .ret)))))))
theorem fits3 : fits Tryz.prog false Tryz.f3 4 97 [(8, none)] = some c3.er := by kernel_rfl
def printF (l : List Cd) : List UInt8 × Int := if limC l = 0 then (printC l, 0) else ([], limC l)
theorem call9F (τ : Nat) (l : List Cd) : PureCall Tryz.prog 9 [.sl τ 7 l.length (fl eCd l)] [] ⟨.tup [.str (printF l).1, .int .i64 (printF l).2], [], []⟩ := by
  unfold printF
  split
  · rename_i h; exact call9 τ l h
  · rename_i h; exact call9_bad τ l h
theorem call10F (τ : Nat) (l : List Cd) : PureCall Tryz.prog 10 [.sl τ 7 l.length (fl eCd l)] [] ⟨.tup [.str (printF l).1, .int .i64 (printF l).2], [], []⟩ := by
  unfold printF
  split
  · rename_i h; exact call10 τ l h
  · rename_i h; exact call10_bad τ l h
theorem two_same (e : Int) (t : List UInt8) : (bif (e != e) then true else (t != t)) = false := by simp
set_option maxRecDepth 100000 in
set_option maxHeartbeats 8000000 in
theorem call3 (raw : List Cd) (l : List Int) (s : List UInt8) (kd : Int) (hk : -9223372036854775808 ≤ kd ∧ kd ≤ 9223372036854775807) :
    PureCall Tryz.prog 3 [.sl 1 7 raw.length (fl eCd raw), .sl 1 1 l.length (fl eInt l), .str s, .int .i64 kd] [] ⟨.bool true, [], []⟩ := by
  refine pure_call mix Tryz.func3 fits3 rfl ?_
  conv => whnf
  refine ⟨?_, fun hc => ?_, fun hc => ?_⟩
  · exact g0
  · conv => whnf
    refine ⟨_, fun _ => call6, ?_⟩
    conv => whnf
    exact ret
  simp only [bp] at hc
  have hs : s.length ≤ 2000 := by omega
  clear hc
  conv => whnf
  refine ⟨_, fun _ => call_new 1 l, ?_⟩
  conv => whnf
  refine ⟨_, fun _ => call7 ⟨l, 0⟩ (by dsimp only; omega), ?_⟩
  generalize condsF ⟨l, 0⟩ = A
  conv => whnf
  refine ⟨?_, ?_⟩
  · exact g0
  refine LSem.loop (n := 97) mix (α := Nat) (fun i => i ≤ 2)
    (fun i => [(2, .str s), (3, .int .i64 kd), (31, .os 496), (32, .int .i64 2), (33, .int .i64 i)])
    (fun i => [(496, .row 1 22 1 2 (fun i => [[.sl 0 7 A.1.length (fl eCd A.1)], [.sl 1 7 raw.length (fl eCd raw)]].getD i []))]) (fun i => 2 - i) 0 ?_ ?_ ?_
  · exact Nat.zero_le _
  · refine ⟨rfl, rfl, ?_, ?_⟩ <;> exact ent
  · intro i hi
    have hcs : i = 0 ∨ i = 1 ∨ i = 2 := by omega
    rcases hcs with rfl | rfl | rfl
    · conv => whnf
      refine ⟨trivial, fun hc => ?_, fun hc => Bool.noConfusion (show true = false from hc)⟩
      conv => whnf
      refine ⟨_, fun _ => call9F _ A.1, ?_⟩
      conv => whnf
      refine ⟨_, fun _ => call10F _ A.1, ?_⟩
      generalize printF A.1 = F
      conv => whnf
      refine ⟨?_, fun hc2 => absurd (hc2.symm.trans (two_same F.2 F.1)) (by decide), fun hc2 => ?_⟩
      · exact g0
      conv => whnf
      refine ⟨?_, 1, by omega, by omega, rfl, rfl, ?_, ?_⟩
      · exact g0
      · exact ent
      · exact ent
    · conv => whnf
      refine ⟨trivial, fun hc => ?_, fun hc => Bool.noConfusion (show true = false from hc)⟩
      conv => whnf
      refine ⟨_, fun _ => call9F _ raw, ?_⟩
      conv => whnf
      refine ⟨_, fun _ => call10F _ raw, ?_⟩
      generalize printF raw = F
      conv => whnf
      refine ⟨?_, fun hc2 => absurd (hc2.symm.trans (two_same F.2 F.1)) (by decide), fun hc2 => ?_⟩
      · exact g0
      conv => whnf
      refine ⟨?_, 2, by omega, by omega, rfl, rfl, ?_, ?_⟩
      · exact g0
      · exact ent
      · exact ent
    · conv => whnf
      refine ⟨trivial, fun hc => Bool.noConfusion (show false = true from hc), fun hc => ?_⟩
      conv => whnf
      refine ⟨_, fun _ => call11 s (by omega), ?_⟩
      conv => whnf
      refine ⟨_, fun _ => call12 s (by omega), ?_⟩
      have hwl := wordsB_len isBl s
      generalize wordsB isBl s = W at hwl ⊢
      conv => whnf
      refine ⟨?_, fun hc2 => ?_, fun hc2 => ?_⟩
      · exact g0
      · simp only [bp] at hc2; omega
      conv => whnf
      refine ⟨trivial, ?_⟩
      refine LSem.loop (n := 97) mix (α := Nat) (fun i => i ≤ W.length)
        (fun i => [(3, .int .i64 kd), (15, .os 912), (16, .os 944), (66, .int .i64 W.length), (67, .int .i64 i)])
        (fun i => [(912, .row 0 9 1 W.length (fl eStr W)), (944, .row 0 9 1 W.length (fl eStr W))]) (fun i => W.length - i) 0 ?_ ?_ ?_
      · exact Nat.zero_le _
      · refine ⟨rfl, rfl, ?_, ?_⟩ <;> exact ent
      · intro i hi
        have hj : ((i : Int)).toNat = i := by omega
        conv => whnf
        refine ⟨trivial, fun hc => ?_, fun hc => ?_⟩
        · replace hc := of_decide_eq_true hc
          have hlt : i < W.length := by
            have h : (i : Int) < W.length := hc
            omega
          conv => whnf
          refine ⟨rfl, ?_⟩
          conv => whnf
          refine ⟨?_, fun hc2 => ?_, fun hc2 => ?_⟩
          · exact g0
          · replace hc2 : (W.getD ((i : Int)).toNat default != W.getD ((i : Int)).toNat default) = true := hc2
            simp at hc2
          conv => whnf
          refine ⟨?_, i + 1, hlt, by omega, rfl, rfl, ?_, ?_⟩
          · exact g0
          · exact ent
          · exact ent
        · replace hc := of_decide_eq_false hc
          conv => whnf
          refine ⟨_, fun _ => call13 kd, ?_⟩
          conv => whnf
          refine ⟨_, fun _ => call14 kd, ?_⟩
          conv => whnf
          refine ⟨_, fun _ => call_mod kd 6 (by decide) (by decide), ?_⟩
          conv => whnf
          refine ⟨_, fun _ => call13 (kd % 6), ?_⟩
          conv => whnf
          refine ⟨_, fun _ => call_mod kd 6 (by decide) (by decide), ?_⟩
          conv => whnf
          refine ⟨_, fun _ => call14 (kd % 6), ?_⟩
          conv => whnf
          refine ⟨_, fun _ => call6, ?_⟩
          conv => whnf
          refine ⟨?_, [], ?_⟩
          · exact g0
          conv => whnf
          refine ⟨rfl, ?_, trivial, trivial⟩
          show PLe _ _ _ _
          conv => whnf
          simp
end Pv
end Go.Proofs.YtknidebojogodaaGreatDoor
/- ARGUMENTS AS THEY COME IN: what a readable argument stands for. -/
set_option linter.unusedSimpArgs false
set_option linter.unusedVariables false
namespace Go.Proofs.YtknidebojogodaaGreatDoor
namespace Pv
open Go.RowKit Go.ChangeShapes
inductive Sh where
  | int (k : IntKind)
  | bool
  | str
  | sl (shs : List Sh)
  deriving Inhabited
inductive ShR : Sh → PV → Prop where
  | int (k : IntKind) (n : Int) (h : inR k n) : ShR (.int k) (.int k n)
  | bool (b : Bool) : ShR .bool (.bool b)
  | str (s : List UInt8) (h : s.length ≤ maxLen) : ShR .str (.str s)
  | sl (shs : List Sh) (n : Nat) (f : Nat → List PV) (hn : n ≤ maxLen) (h1 : ∀ i, i < n → (f i).length = shs.length)
      (h2 : ∀ (i j : Nat) (s : Sh) (p : PV), i < n → shs[j]? = some s → (f i)[j]? = some p → ShR s p) : ShR (.sl shs) (.sl 1 shs.length n f)
def ShL (shs : List Sh) (ps : List PV) : Prop := ps.length = shs.length ∧ ∀ (j : Nat) (s : Sh) (p : PV), shs[j]? = some s → ps[j]? = some p → ShR s p
def fieldSh (sh : TypeId → Option (List Sh)) (P : Program) : Nat → List Field → Option (List Sh)
  | _, [] => some []
  | off, f :: fs => if f.offset = off then match sh f.type with
      | some s => if s.length = P.cellsOf f.type then match fieldSh sh P (off + s.length) fs with
          | some r => some (s ++ r)
          | none => none
        else none
      | none => none
    else none
def shp (P : Program) : Nat → TypeId → Option (List Sh)
  | 0, _ => none
  | m + 1, t => match P.underlying t with
    | some .bool => some [.bool]
    | some (.int k) => some [.int k]
    | some .string => some [.str]
    | some (.slice e) => match shp P m e with
      | some s => if s.length = P.cellsOf e ∧ 0 < s.length then some [.sl s] else none
      | none => none
    | some (.struct fs) => match fieldSh (shp P m) P 0 fs.toList with
      | some s => if s.length = P.cellsOf t then some s else none
      | none => none
    | _ => none
theorem ShR.flat {s : Sh} {p : PV} (h : ShR s p) : p.flat = true := by cases h <;> rfl
theorem ShR.mark1 {s : Sh} {p : PV} (h : ShR s p) : p.mark 1 = p := by cases h <;> rfl
theorem ShL.append {a b : List Sh} {x y : List PV} (h : ShL a x) (h' : ShL b y) : ShL (a ++ b) (x ++ y) := by
  refine ⟨by simp [h.1, h'.1], fun j s p hs hp => ?_⟩
  rw [List.getElem?_append] at hs hp
  rw [h.1] at hp
  split at hs
  · rename_i hj; rw [if_pos hj] at hp; exact h.2 j s p hs hp
  · rename_i hj; rw [if_neg hj] at hp; exact h'.2 _ s p hs hp
section
variable {H : Type} {enc : TypeId × Value → H} {P : Program} {w : World} {sp : Nat → Bool} {held : Bool} {X : Cx} {γ : Gh}
theorem trod_fields {m n : Nat} {cs : List Value} {xs : List (DataW H × List MemPlace)}
    (ih : ∀ (t : TypeId) (cs : List Value) (x : DataW H × List MemPlace) (shs : List Sh), shp P m t = some shs → DataW.trod enc P w 0 sp held n t cs = some x → ∃ ps, ShL shs ps ∧ RepL X γ w ps cs ∧ ∀ u ∈ cs, u.oneCell' = true) :
    ∀ (fs : List Field) (off k : Nat) (shs : List Sh), fieldSh (shp P m) P off fs = some shs → off + shs.length = cs.length → (∀ i f, fs[i]? = some f → DataW.trod enc P w 0 sp held n f.type ((cs.drop f.offset).take (P.cellsOf f.type)) = xs[k + i]?) → k + fs.length = xs.length →
      ∃ ps, ShL shs ps ∧ RepL X γ w ps (cs.drop off) ∧ ∀ u ∈ cs.drop off, u.oneCell' = true
  | [], off, k, shs, h, hl, hx, hk => by
    simp only [fieldSh, Option.some.injEq] at h; subst h
    have e : cs.drop off = [] := List.drop_eq_nil_of_le (by simpa using hl.symm ▸ Nat.le_refl _)
    rw [e]
    exact ⟨[], ⟨rfl, fun j s p hs => by simp at hs⟩, RepL.nil_, by simp⟩
  | f :: fs, off, k, shs, h, hl, hx, hk => by
    simp only [fieldSh] at h
    split at h
    · rename_i hoff
      split at h
      · rename_i s hs
        split at h
        · rename_i hsl
          split at h
          · rename_i r hr
            injection h with h; subst h
            simp only [List.length_append] at hl
            obtain ⟨ps', h1, h2, h3⟩ := trod_fields (cs := cs) ih fs (off + s.length) (k + 1) r hr (by omega) (fun i f' hf => by
              have := hx (i + 1) f' (by simpa using hf)
              rw [show k + (i + 1) = k + 1 + i from by omega] at this; exact this) (by simp only [List.length_cons] at hk; omega)
            have h0 := hx 0 f rfl
            have hk0 : k + 0 < xs.length := by simp only [List.length_cons] at hk; omega
            rw [List.getElem?_eq_getElem hk0] at h0
            obtain ⟨ps, g1, g2, g3⟩ := ih _ _ _ _ hs h0
            rw [hoff, ← hsl] at g2 g3
            have e : cs.drop off = (cs.drop off).take s.length ++ cs.drop (off + s.length) := by
              rw [← List.drop_drop, List.take_append_drop]
            refine ⟨ps ++ ps', g1.append h1, ?_, ?_⟩
            · rw [e]; exact g2.append h2
            · rw [e]
              intro u hu
              rcases List.mem_append.1 hu with hu | hu
              · exact g3 u hu
              · exact h3 u hu
          · cases h
        · cases h
      · cases h
    · cases h
theorem trod_rep (hX : ∀ b, b < w.heap.size → mayLie X γ 1 b) : ∀ (m fuel : Nat) (t : TypeId) (cs : List Value) (x : DataW H × List MemPlace) (shs : List Sh), shp P m t = some shs → DataW.trod enc P w 0 sp held fuel t cs = some x →
    ∃ ps, ShL shs ps ∧ RepL X γ w ps cs ∧ ∀ u ∈ cs, u.oneCell' = true := by
  have one : ∀ (s : Sh) (p : PV) (v : Value), ShR s p → Rep X γ w p v → v.oneCell' = true → ∃ ps, ShL [s] ps ∧ RepL X γ w ps [v] ∧ ∀ u ∈ [v], u.oneCell' = true := fun s p v h1 h2 h3 =>
    ⟨[p], ⟨rfl, fun j s' p' hs hp => by
      cases j with
      | zero => simp only [List.getElem?_cons_zero, Option.some.injEq] at hs hp; subst hs; subst hp; exact h1
      | succ j => simp at hs⟩, RepL.cons_ h2 RepL.nil_, by simpa using h3⟩
  intro m
  induction m with
  | zero => intro fuel t cs x shs h; simp [shp] at h
  | succ m ih =>
    intro fuel t cs x shs h hd
    simp only [shp] at h
    split at h
    · rename_i ht
      injection h with h; subst h
      obtain ⟨b, rfl, _⟩ := DataW.trod_bool ht hd
      exact one _ _ _ (.bool b) (.bool b) rfl
    · rename_i k ht
      injection h with h; subst h
      obtain ⟨n, rfl, _, hw⟩ := DataW.trod_int ht hd
      simp only [Lit.wf, Bool.and_eq_true, decide_eq_true_eq] at hw
      exact one _ _ _ (.int k n hw) (.int k n) rfl
    · rename_i ht
      injection h with h; subst h
      obtain ⟨s, rfl, _, hw⟩ := DataW.trod_string ht hd
      have e : s = ⟨s.data.toList.toArray⟩ := by cases s; simp
      refine one _ (.str s.data.toList) _ (.str _ (by rw [Array.length_toList]; exact hw)) ?_ rfl
      have := Rep.str (X := X) (γ := γ) (w := w) s.data.toList
      rwa [← e] at this
    · rename_i e ht
      split at h
      · rename_i s hs
        split at h
        · rename_i hc
          obtain ⟨hsl, hpos⟩ := hc
          injection h with h; subst h
          rcases DataW.trod_slice ht hd with ⟨rfl, _⟩ | ⟨a, len, cap, elems, rest, n, hf, rfl, _, hb, hlc, hcm, hel, helem, _, _⟩
          · refine one _ (.sl 1 s.length 0 (fun _ => [])) _ (.sl s 0 _ (Nat.zero_le _) (fun i hi => by omega) (fun i j s p hi => by omega)) ?_ rfl
            exact .sl 1 _ 0 _ none 0 (fun _ => undef) (Nat.le_refl _) (fun i hi => by omega) (fun i hi => by omega) (fun hi => by omega) (fun i j c hi => by omega)
          · have hex : ∀ i, ∃ ps, i < len → ShL s ps ∧ ∃ cs', w.cells? 0 (a.add (i * P.cellsOf e)) (P.cellsOf e) = some cs' ∧ RepL X γ w ps cs' := fun i => by
              by_cases hi : i < len
              · have h1 := helem i hi
                rw [List.getElem?_eq_getElem (by omega)] at h1
                obtain ⟨cs', h2, h3⟩ := Option.bind_eq_some_iff.1 h1
                obtain ⟨ps, g1, g2, _⟩ := ih _ _ _ _ _ hs h3
                exact ⟨ps, fun _ => ⟨g1, cs', h2, g2⟩⟩
              · exact ⟨[], fun h => absurd h hi⟩
            let f : Nat → List PV := fun i => Classical.choose (hex i)
            have hf' : ∀ i, i < len → ShL s (f i) ∧ ∃ cs', w.cells? 0 (a.add (i * P.cellsOf e)) (P.cellsOf e) = some cs' ∧ RepL X γ w (f i) cs' := fun i => Classical.choose_spec (hex i)
            have hcell : ∀ i j, i < len → j < s.length → ∃ u p, w.cell? (a.add (i * s.length + j)) = some u ∧ (f i)[j]? = some p ∧ Rep X γ w p u := fun i j hi hj => by
              obtain ⟨g1, cs', g2, g3⟩ := hf' i hi
              obtain ⟨_, k2, k3⟩ := World.cells?_some g2
              have hj' : j < cs'.length := by rw [k2, ← hsl]; exact hj
              have hk := k3 j (by rw [← hsl]; exact hj)
              rw [List.getElem?_eq_getElem hj', add_add_, ← hsl] at hk
              have hpj : j < (f i).length := by rw [g1.1]; exact hj
              exact ⟨_, _, hk, List.getElem?_eq_getElem hpj, g3.2 j _ _ (List.getElem?_eq_getElem hpj) (List.getElem?_eq_getElem hj')⟩
            refine one _ (.sl 1 s.length len f) _ (.sl s len f (Nat.le_trans hlc hcm) (fun i hi => (hf' i hi).1.1) (fun i j s' p hi hs' hp => (hf' i hi).1.2 j s' p hs' hp)) ?_ rfl
            have hsh : ∀ i, i < len → ∀ c ∈ f i, ∃ s', ShR s' c := fun i hi c hc => by
              obtain ⟨j, hj⟩ := List.getElem?_of_mem hc
              have hlt := (List.getElem?_eq_some_iff.1 hj).1
              have hlt2 : j < s.length := by rw [← (hf' i hi).1.1]; exact hlt
              exact ⟨_, (hf' i hi).1.2 j _ _ (List.getElem?_eq_getElem hlt2) hj⟩
            refine .sl 1 s.length len f (some a) cap (fun k => (w.cell? (a.add k)).getD undef) hlc (fun i hi => (hf' i hi).1.1) (fun i hi c hc => by obtain ⟨s', h⟩ := hsh i hi c hc; exact h.flat) (fun hn => ?_) (fun i j c hi hc => ?_)
            · obtain ⟨u, p, h1, _, _⟩ := hcell 0 0 hn hpos
              have hblk : a.block < w.heap.size := by
                obtain ⟨_, cs', g2, _⟩ := hf' 0 hn
                have := World.cells?_block g2 (by omega)
                have e : (a.add (0 * P.cellsOf e)).block = a.block := by unfold Addr.add; split <;> rfl
                rwa [e] at this
              refine ⟨a, rfl, hX _ hblk, hblk, fun k hk => ?_⟩
              have hk1 : k / s.length < len := by rw [Nat.div_lt_iff_lt_mul hpos]; exact hk
              obtain ⟨u, p, h1, _, _⟩ := hcell (k / s.length) (k % s.length) hk1 (Nat.mod_lt _ hpos)
              rw [Nat.mul_comm, Nat.div_add_mod] at h1
              rw [h1]; rfl
            · have hj : j < s.length := by rw [← (hf' i hi).1.1]; exact (List.getElem?_eq_some_iff.1 hc).1
              obtain ⟨u, p, h1, h2, h3⟩ := hcell i j hi hj
              rw [h2] at hc; injection hc with hc; subst hc
              obtain ⟨s', h⟩ := hsh i hi p (List.mem_of_getElem? h2)
              rw [h.mark1, h1]; exact h3
        · cases h
      · cases h
    · rename_i fs ht
      split at h
      · rename_i s hs
        split at h
        · rename_i hsl
          injection h with h; subst h
          obtain ⟨xs, n, rfl, _, hcl, hxl, hx⟩ := DataW.trod_struct ht hd
          obtain ⟨ps, h1, h2, h3⟩ := trod_fields (cs := cs) (xs := xs) (ih n) fs.toList 0 0 s hs (by omega) (fun i f hf => by rw [Nat.zero_add]; exact hx i f (by simpa using hf)) (by simpa using hxl.symm)
          exact ⟨ps, h1, by simpa using h2, by simpa using h3⟩
        · cases h
      · cases h
    · cases h
end
end Pv
end Go.Proofs.YtknidebojogodaaGreatDoor
/- A LAW's ROW, FROM ITS FUNCTION's CONTRACT. -/
set_option linter.unusedSimpArgs false
set_option linter.unusedVariables false
namespace Go.Proofs.YtknidebojogodaaGreatDoor
namespace Pv
open Go.RowKit Go.ChangeShapes
section
variable {H : Type} {enc : TypeId × Value → H} {P : Program} {w : World} {sp : Nat → Bool} {held : Bool}
def cx0 (w : World) : Cx := ⟨w.heap.size, fun b => b < w.heap.size, fun _ => False, 0, fun _ => none⟩
def gh0 : Gh := fun _ => none
theorem gh0_own (b : Nat) : ¬ gh0.own b := by rintro ⟨r, ge, h, _⟩; cases h
theorem lie0 (b : Nat) (hb : b < w.heap.size) : mayLie (cx0 w) gh0 1 b := ⟨gh0_own b, .inr (.inl ⟨Nat.le_refl _, hb⟩)⟩
def GlobOK (w : World) : Prop := ∀ b p, glob b = some p → ∃ o, w.heap[b]? = some o ∧ p o
theorem globOK_none (h : ∀ b, glob b = none) : GlobOK w := fun b p hb => by rw [h b] at hb; cases hb
theorem st0 (hgl : GlobOK w) : RepSt (cx0 w) gh0 w (fun r => ([] : List SE)[r]?) :=
  ⟨fun r => by simp [gh0], fun r ge e h => (by cases h), fun r r' ge ge' b h => (by cases h), fun b hb => absurd hb (gh0_own b), fun b hb => absurd hb (gh0_own b), fun b p hb => ⟨hgl b p hb, gh0_own b, by
    obtain ⟨o, h1, _⟩ := hgl b p hb
    exact (Array.getElem?_eq_some_iff.1 h1).1⟩⟩
theorem law_calls (hgl : GlobOK w) {f : FuncId} {args : List PV} {vals : List Value} (h : PureCall P f args [] ⟨.bool true, [], []⟩) (hr : RepL (cx0 w) gh0 w args vals) :
    Calls P f vals.toArray w fun e w' => e = .returned (.bool true) ∧ Below w.heap.size w w' := by
  have hst : RepSt ⟨w.heap.size, (cx0 w).as, (cx0 w).ls, ([] : List SE).length, gh0⟩ gh0 w (fun r => ([] : List SE)[r]?) :=
    st0 (w := w) hgl
  refine (h.2 w gh0 (cx0 w).as (cx0 w).ls vals hst (fun b hb => hb.elim (fun h => h) (fun h => h.elim)) hr).mono ?_
  rintro e w' ⟨v, γ', rfl, hv, _, hk, _, _⟩
  cases hv.bool_inv
  exact ⟨rfl, hk.os, hk.tape, hk.output, hk.size, fun k hk' => hk.block k hk' (gh0_own k)⟩
theorem arg_one {m : Nat} {t : TypeId} {s : Sh} {v : Value} {d : DataW H} {ps : List MemPlace} (hs : shp P m t = some [s]) (hv : v.oneCell' = true) (h : DataW.Trod enc P w 0 sp held t v d ps) : ∃ p, ShR s p ∧ Rep (cx0 w) gh0 w p v := by
  obtain ⟨fuel, hf⟩ := h
  rw [cells_one hv] at hf
  obtain ⟨ps, h1, h2, _⟩ := trod_rep (X := cx0 w) (γ := gh0) lie0 _ _ _ _ _ _ hs hf
  obtain ⟨h1, h1'⟩ := h1
  match ps, h1 with
  | [p], _ =>
    obtain ⟨u, us, hu, hr, _⟩ := h2.cons_inv
    simp only [List.cons.injEq] at hu
    exact ⟨p, h1' 0 s p rfl rfl, by rw [hu.1]; exact hr⟩
theorem arg_agg {m : Nat} {t : TypeId} {shs : List Sh} {cs : Array Value} {d : DataW H} {ps : List MemPlace} (hs : shp P m t = some shs) (h : DataW.Trod enc P w 0 sp held t (.agg cs) d ps) : ∃ qs, ShL shs qs ∧ Rep (cx0 w) gh0 w (.agg qs) (.agg cs) := by
  obtain ⟨fuel, hf⟩ := h
  obtain ⟨qs, h1, h2, h3⟩ := trod_rep (X := cx0 w) (γ := gh0) lie0 _ _ _ _ _ _ hs hf
  have := Rep.agg qs cs.toList h2.1 h3 h2.2
  exact ⟨qs, h1, by simpa using this⟩
theorem Rep.le0 (hgl : GlobOK w) {p q : PV} {v : Value} (h : Rep (cx0 w) gh0 w p v) (hl : PLe (fun r => ([] : List SE)[r]?) (fun _ => true) p q) : Rep (cx0 w) gh0 w q v :=
  h.le (γk := gh0) (st0 hgl) (fun r ge b τ e z n f hr => (by cases hr)) (fun r ge hr _ => hr) (fun r ge hr => ⟨hr, rfl⟩) q hl
theorem sh_list (hgl : GlobOK w) {α : Type} [Inhabited α] (e : α → List PV) (Q : α → Prop) {shs : List Sh} (hdec : ∀ ps, ShL shs ps → ∃ x, ps = e x ∧ Q x) {p : PV} (h : ShR (.sl shs) p) {v : Value} (hr : Rep (cx0 w) gh0 w p v) :
    ∃ l : List α, Rep (cx0 w) gh0 w (.sl 1 shs.length l.length (fl e l)) v ∧ l.length ≤ maxLen ∧ ∀ x ∈ l, Q x := by
  cases h with
  | sl _ n f hn h1 h2 =>
    have hx : ∀ i, ∃ x, i < n → f i = e x ∧ Q x := fun i => by
      by_cases hi : i < n
      · obtain ⟨x, hx⟩ := hdec (f i) ⟨h1 i hi, fun j s p hs hp => h2 i j s p hi hs hp⟩
        exact ⟨x, fun _ => hx⟩
      · exact ⟨default, fun h => absurd h hi⟩
    let g : Nat → α := fun i => Classical.choose (hx i)
    have hg : ∀ i, i < n → f i = e (g i) ∧ Q (g i) := fun i => Classical.choose_spec (hx i)
    refine ⟨(List.range n).map g, hr.le0 hgl ?_, by simpa using hn, fun x hm => ?_⟩
    · refine ⟨Nat.le_refl _, rfl, by simp, fun i hi => ?_⟩
      rw [(hg i hi).1]
      simp [fl, List.getD_eq_getElem?_getD, hi]
    · obtain ⟨i, hi, rfl⟩ := List.mem_map.1 hm
      exact (hg i (List.mem_range.1 hi)).2
theorem sh_int {k : IntKind} {p : PV} (h : ShR (.int k) p) : ∃ n, p = .int k n ∧ inR k n := by cases h with | int _ n h => exact ⟨n, rfl, h⟩
theorem sh_bool {p : PV} (h : ShR .bool p) : ∃ b, p = .bool b := by cases h with | bool b => exact ⟨b, rfl⟩
theorem sh_str {p : PV} (h : ShR .str p) : ∃ s, p = .str s ∧ s.length ≤ maxLen := by cases h with | str s h => exact ⟨s, rfl, h⟩
theorem shl_cons {s : Sh} {ss : List Sh} {ps : List PV} (h : ShL (s :: ss) ps) : ∃ p qs, ps = p :: qs ∧ ShR s p ∧ ShL ss qs := by
  obtain ⟨h1, h2⟩ := h
  match ps, h1 with
  | p :: qs, h1 => exact ⟨p, qs, rfl, h2 0 s p rfl rfl, by simpa using h1, fun j s' p' hs hp => h2 (j + 1) s' p' (by simpa using hs) (by simpa using hp)⟩
theorem shl_nil {ps : List PV} (h : ShL [] ps) : ps = [] := List.eq_nil_of_length_eq_zero h.1
end
end Pv
end Go.Proofs.YtknidebojogodaaGreatDoor
/- A LAW's ROW, FROM ITS FUNCTION's CONTRACT: how long slices are that came in. -/
set_option linter.unusedSimpArgs false
set_option linter.unusedVariables false
namespace Go.Proofs.YtknidebojogodaaGreatDoor
namespace Pv
open Go.RowKit Go.ChangeShapes
section
variable {H : Type} {enc : TypeId × Value → H} {P : Program} {w : World} {sp : Nat → Bool} {held : Bool}
theorem sized_len {ts : List TypeId} {ds : List (DataW H)} (hz : (DataW.weightsEach P ts ds).all (· ≤ reachBytes) = true) {j : Nat} {t e : TypeId} {d : DataW H} {ps : List MemPlace} {a : Option Addr} {len cap : Nat}
    (ht : ts[j]? = some t) (hd : ds[j]? = some d) (hu : P.underlying t = some (.slice e)) (h : DataW.Trod enc P w 0 sp held t (.slice a len cap) d ps)
    (hb : 0 < P.bytesOf e) {X : Cx} {γ : Gh} {τ z n : Nat} {f : Nat → List PV} (hr : Rep X γ w (.sl τ z n f) (.slice a len cap)) : n ≤ 140737488351232 := by
  have hn : n = len := by cases hr; rfl
  subst hn
  obtain ⟨fuel, hf⟩ := h
  rcases DataW.trod_slice hu hf with ⟨h1, _⟩ | ⟨a', len', cap', elems, rest, m, _, h1, h2, _, _, _, h3, _⟩
  · have h1' : Value.slice a n cap = .slice none 0 0 := by simpa [Value.cells] using h1
    injection h1' with _ h4 _
    omega
  · have h1' : Value.slice a n cap = .slice (some a') len' cap' := by simpa [Value.cells] using h1
    injection h1' with _ h4 _
    injection h2 with h5 _
    subst h5
    have := sized_slice hz ht hd hu
    simp only [List.length_map] at this
    have h6 : n * 1 ≤ (elems.length + rest.length) * P.bytesOf e := Nat.mul_le_mul (by omega) hb
    have h7 : reachBytes = 140737488351232 := rfl
    omega
end
end Pv
end Go.Proofs.YtknidebojogodaaGreatDoor
set_option linter.unusedSimpArgs false
set_option linter.unusedVariables false
namespace Go.Proofs.YtknidebojogodaaGreatDoor
namespace Pv
open Go.RowKit Go.ChangeShapes
section
variable {H : Type} {enc : TypeId × Value → H} {P : Program} {w : World} {sp : Nat → Bool} {held : Bool}
def eSl {α : Type} [Inhabited α] (k : Nat) (e : α → List PV) (m : List α) : List PV := [.sl 1 k m.length (fl e m)]
theorem sh_list2 (hgl : GlobOK w) {α : Type} [Inhabited α] (e : α → List PV) (Q : α → Prop) {shs : List Sh} (hdec : ∀ ps, ShL shs ps → ∃ x, ps = e x ∧ Q x) {p : PV} (h : ShR (.sl [.sl shs]) p) {v : Value} (hr : Rep (cx0 w) gh0 w p v) :
    ∃ G : List (List α), Rep (cx0 w) gh0 w (.sl 1 1 G.length (fl (eSl shs.length e) G)) v ∧ G.length ≤ maxLen ∧ ∀ m ∈ G, ∀ x ∈ m, Q x := by
  cases h with
  | sl _ n f hn h1 h2 =>
    have hx : ∀ i, ∃ m : List α, i < n → ∃ f', f i = [.sl 1 shs.length m.length f'] ∧ RowEq m.length f' (fl e m) ∧ ∀ x ∈ m, Q x := fun i => by
      by_cases hi : i < n
      · have hl := h1 i hi
        match hf : f i, hl with
        | [c], _ =>
          have hc := h2 i 0 (.sl shs) c hi rfl (by rw [hf]; rfl)
          cases hc with
          | sl _ n' f' hn' g1 g2 =>
            have hy : ∀ i, ∃ x, i < n' → f' i = e x ∧ Q x := fun j => by
              by_cases hj : j < n'
              · obtain ⟨x, hx⟩ := hdec (f' j) ⟨g1 j hj, fun k s p hs hp => g2 j k s p hj hs hp⟩
                exact ⟨x, fun _ => hx⟩
              · exact ⟨default, fun h => absurd h hj⟩
            refine ⟨(List.range n').map fun j => Classical.choose (hy j), fun _ => ⟨f', by simp, fun j hj => ?_, fun x hm => ?_⟩⟩
            · simp only [List.length_map, List.length_range] at hj
              rw [(Classical.choose_spec (hy j) hj).1]
              simp [fl, List.getD_eq_getElem?_getD, hj]
            · obtain ⟨j, hj, rfl⟩ := List.mem_map.1 hm
              exact (Classical.choose_spec (hy j) (List.mem_range.1 hj)).2
      · exact ⟨[], fun h => absurd h hi⟩
    let g : Nat → List α := fun i => Classical.choose (hx i)
    have hg : ∀ i, i < n → ∃ f', f i = [.sl 1 shs.length (g i).length f'] ∧ RowEq (g i).length f' (fl e (g i)) ∧ ∀ x ∈ g i, Q x := fun i => Classical.choose_spec (hx i)
    refine ⟨(List.range n).map g, ?_, by simpa using hn, fun m hm => ?_⟩
    · have hget : ∀ i, i < n → fl (eSl shs.length e) ((List.range n).map g) i = [.sl 1 shs.length (g i).length (fl e (g i))] := fun i hi => by
        simp [fl, eSl, List.getD_eq_getElem?_getD, hi]
      have hlen : ((List.range n).map g).length = n := by simp
      cases hr with
      | sl _ _ _ _ ad cap vs hcap hz hf hb hh =>
        rw [hlen]
        refine .sl 1 1 n _ ad cap vs hcap (fun i hi => by rw [hget i hi]; rfl) (fun i hi c hc => ?_) hb (fun i j c hi hc => ?_)
        · rw [hget i hi] at hc
          rw [List.mem_singleton.1 hc]; rfl
        · rw [hget i hi] at hc
          obtain ⟨f', e1, e2, _⟩ := hg i hi
          cases j with
          | zero =>
            simp only [List.getElem?_cons_zero, Option.some.injEq] at hc
            subst hc
            have := hh i 0 _ hi (by rw [e1]; rfl)
            exact this.le0 hgl ⟨Nat.le_refl _, rfl, rfl, e2⟩
          | succ j => simp at hc
    · obtain ⟨i, hi, rfl⟩ := List.mem_map.1 hm
      obtain ⟨_, _, _, h3⟩ := hg i (List.mem_range.1 hi)
      exact h3
theorem weightsAll_mem {e : TypeId} : ∀ {l : List (DataW H)} {i : Nat} {d : DataW H}, l[i]? = some d → ∀ n ∈ d.weights P e, n ∈ DataW.weightsAll P e l
  | [], i, d, h, n, hn => by simp at h
  | x :: l, 0, d, h, n, hn => by
    simp only [List.getElem?_cons_zero, Option.some.injEq] at h
    subst h
    simp only [DataW.weightsAll, List.mem_append]; exact .inl hn
  | x :: l, i + 1, d, h, n, hn => by
    simp only [DataW.weightsAll, List.mem_append]; exact .inr (weightsAll_mem (by simpa using h) n hn)
theorem sized_len2 {ts : List TypeId} {ds : List (DataW H)} (hz : (DataW.weightsEach P ts ds).all (· ≤ reachBytes) = true) {j : Nat} {t e e2 : TypeId} {d : DataW H} {ps : List MemPlace} {a : Option Addr} {len cap : Nat}
    (ht : ts[j]? = some t) (hd : ds[j]? = some d) (hu : P.underlying t = some (.slice e)) (hu2 : P.underlying e = some (.slice e2)) (hce : P.cellsOf e = 1) (h : DataW.Trod enc P w 0 sp held t (.slice a len cap) d ps)
    {X : Cx} {γ : Gh} {τ n : Nat} {F : Nat → List PV} (hr : Rep X γ w (.sl τ 1 n F) (.slice a len cap)) {i τ' z' N : Nat} {f' : Nat → List PV} (hi : i < n) (hF : F i = [.sl τ' z' N f']) : N * P.bytesOf e2 ≤ 140737488351232 := by
  have hreach : reachBytes = 140737488351232 := rfl
  cases hr with
  | sl _ _ _ _ _ _ vs hcap hz' hf hb hh =>
  obtain ⟨a', rfl, _, _, hcell⟩ := hb (by omega)
  obtain ⟨fuel, hfu⟩ := h
  rcases DataW.trod_slice hu hfu with ⟨h1, _⟩ | ⟨a'', len', cap', elems, rest, m, _, h1, h2, _, _, _, h3, h4, _⟩
  · simp [Value.cells] at h1
  · have h1' : Value.slice (some a') len cap = .slice (some a'') len' cap' := by simpa [Value.cells] using h1
    injection h1' with h5 h6 h7
    injection h5 with h5
    subst h5; subst h6
    injection h2 with h8 _
    subst h8
    have h9 := h4 i hi
    rw [List.getElem?_eq_getElem (by omega), hce, Nat.mul_one] at h9
    obtain ⟨cs', g1, g2⟩ := Option.bind_eq_some_iff.1 h9
    obtain ⟨_, k2, k3⟩ := World.cells?_some g1
    have k4 := k3 0 (by omega)
    have hv := hcell i (by omega)
    rw [add_add_, Nat.add_zero, hv] at k4
    have hcs : cs' = [vs i] := by
      match cs', k2, k4 with
      | [x], _, k4 => simp only [List.getElem?_cons_zero, Option.some.injEq] at k4; rw [k4]
    have hrep := hh i 0 _ hi (by rw [hF]; rfl)
    rw [Nat.mul_one, Nat.add_zero] at hrep
    simp only [PV.mark] at hrep
    subst hcs
    generalize vs i = u at hrep g2
    cases hrep with
    | sl _ _ _ _ ad cap2 vs2 _ _ _ _ _ =>
    rcases DataW.trod_slice hu2 g2 with ⟨q1, _⟩ | ⟨b, len2, cap3, elems2, rest2, m2, _, q1, q2, _, _, _, q3, _⟩
    · have q1' : Value.slice ad N cap2 = .slice none 0 0 := by simpa using q1
      injection q1' with _ q5 _
      subst q5; rw [Nat.zero_mul]; exact Nat.zero_le _
    · have q1' : Value.slice ad N cap2 = .slice (some b) len2 cap3 := by simpa using q1
      injection q1' with _ q5 _
      subst q5
      have hmem : (elems2.map (·.1)).length * P.bytesOf e2 ≤ ((elems2.map (·.1)).length + (rest2.map (·.1)).length) * P.bytesOf e2 := Nat.mul_le_mul_right _ (by omega)
      have he : (elems.map (·.1))[i]? = some (DataW.slice (elems2.map (·.1)) (rest2.map (·.1))) := by
        rw [List.getElem?_map, List.getElem?_eq_getElem (by omega), Option.map_some, q2]
      have hw1 : ((elems2.map (·.1)).length + (rest2.map (·.1)).length) * P.bytesOf e2 ∈ DataW.weightsEach P ts ds := by
        refine DataW.weights_mem_each ht hd _ ?_
        simp only [DataW.weights, hu, List.mem_cons, List.mem_append]
        refine .inr (.inl (weightsAll_mem he _ ?_))
        simp [DataW.weights, hu2]
      have := List.all_eq_true.1 hz _ hw1
      have h10 : ((elems2.map (·.1)).length + (rest2.map (·.1)).length) * P.bytesOf e2 ≤ reachBytes := by simpa using this
      have h11 : (elems2.map (·.1)).length = N := by rw [List.length_map]; exact q3
      rw [h11] at hmem h10
      omega
end
end Pv
end Go.Proofs.YtknidebojogodaaGreatDoor
