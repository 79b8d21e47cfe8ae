/- LAW RulesLines: the row and its card: the law returns true for every input, and the input reads as before; the listed tables read as the program's text lays them. -/
import Derived.Test.YtknidebojogodaaGreatDoorZeh
import Derived.Lib.Repeat
import Derived.Test.YtknidebojogodaaGreatDoorZeg
import Derived.Test.YtknidebojogodaaGreatDoorZef
import Derived.ProofKit
import Derived.ChangeOld
import Derived.DataElems
import Derived.Below
import Derived.SizedLaws
import Derived.Test.YtknidebojogodaaGreatDoorTie
import Derived.WalkKit
import Derived.OpenShut
import Derived.ShutString
import Derived.LaidMore
import Derived.Lay
import Derived.LaidSub
import Derived.SevenTiedAt
import Derived.Shelf.Vars
import Derived.MakeChecks
import Derived.Test.YtknidebojogodaaGreatDoorCards
/- LAW 13, PLAIN: texts one behind the other; remarks and empty lines. -/
set_option linter.unusedSimpArgs false
set_option linter.unusedVariables false
namespace Go.Proofs.YtknidebojogodaaGreatDoor
namespace Pv
def gap1 : List UInt8 := [32, 32, 35, 32, 108, 101, 97, 115, 116, 10, 10]
def badT : List UInt8 := [114, 97, 110, 107, 32, 49, 32, 108, 101, 97, 115, 116, 10]
def gapW : Nat → List (List (List UInt8))
  | 0 => []
  | k + 1 => [[35], wLeast] :: [] :: gapW k
theorem linesW_cut {a : List UInt8} (h : ∀ x ∈ a, x ≠ 10) (r : List UInt8) : linesW (a ++ 10 :: r) = wordsB isBl a :: linesW r := by
  unfold linesW
  rw [splitC_cut h, List.map_cons]
theorem linesW_gap (rest : List UInt8) : ∀ k, linesW (Lib.repeatL gap1 k ++ rest) = gapW k ++ linesW rest
  | 0 => rfl
  | k + 1 => by
    have ih := linesW_gap rest k
    have e : Lib.repeatL gap1 (k + 1) ++ rest = [32, 32, 35, 32, 108, 101, 97, 115, 116] ++ 10 :: ([] ++ 10 :: (Lib.repeatL gap1 k ++ rest)) := by simp [Lib.repeatL, gap1]
    rw [e, linesW_cut (by decide), linesW_cut (by simp), ih]
    rfl
theorem linL_gap (W : List (List (List UInt8))) : ∀ (k : Nat) (i : Int), linL i (gapW k ++ W) = linL (i + 2 * k) W
  | 0, i => by rw [show i + 2 * ((0 : Nat) : Int) = i by omega]; rfl
  | k + 1, i => by
    have ih := linL_gap W k (i + 1 + 1)
    rw [show i + 2 * ((k + 1 : Nat) : Int) = i + 1 + 1 + 2 * (k : Int) by omega, ← ih]
    rfl
theorem linL_bad (i : Int) (rest : List UInt8) : linL i (linesW (badT ++ rest)) = (i + 1, [wRank, [49], wLeast]) :: linL (i + 1) (linesW rest) := by
  have e : badT ++ rest = [114, 97, 110, 107, 32, 49, 32, 108, 101, 97, 115, 116] ++ 10 :: rest := by simp [badT]
  rw [e, linesW_cut (by decide)]
  rfl
theorem repeat_len (k : Nat) : (Lib.repeatL gap1 k).length = k * 11 := by rw [Lib.repeatL_length]; rfl
theorem parse_two {a b : List Cd} (ha : ∀ c ∈ a, oneC c = 0) (hb : ∀ c ∈ b, oneC c = 0) (la : a.length ≤ 6) (lb : b.length ≤ 6) {k : Nat} (hk : k ≤ 4) :
    parseG ((printC a ++ Lib.repeatL gap1 k) ++ printC b) = (a ++ b, 0, 0) := by
  have h1 := printC_len ha
  have h2 := printC_len hb
  have h3 := repeat_len k
  have hL : linL 0 (linesW ((printC a ++ Lib.repeatL gap1 k) ++ printC b)) = numd 0 a ++ numd (0 + a.length + 2 * k) b := by
    have e := linesW_print hb []
    rw [List.append_nil, linesW_nil] at e
    rw [List.append_assoc, linesW_print ha, linesW_gap, linL_numd, linL_gap, e, linL_numd]
    show _ = _
    rw [show linL (0 + (a.length : Int) + 2 * (k : Int) + (b.length : Int)) [[]] = [] from rfl, List.append_nil]
  unfold parseG
  rw [if_neg (by simp only [List.length_append]; omega), hL, if_neg (by rw [List.length_append, numd_len, numd_len]; omega), parG_numd ha]
  have := parG_numd hb (0 + a.length + 2 * k) [] ([] ++ a)
  rw [List.append_nil] at this
  rw [this]; rfl
theorem parse_bad {a b : List Cd} (ha : ∀ c ∈ a, oneC c = 0) (hb : ∀ c ∈ b, oneC c = 0) (la : a.length ≤ 6) (lb : b.length ≤ 6) {k : Nat} (hk : k ≤ 4) :
    parseG (((printC a ++ Lib.repeatL gap1 k) ++ badT) ++ printC b) = ([], (a.length : Int) + 2 * (k : Int) + 1, 7) := by
  have h1 := printC_len ha
  have h2 := printC_len hb
  have h3 := repeat_len k
  have hL : linL 0 (linesW (((printC a ++ Lib.repeatL gap1 k) ++ badT) ++ printC b)) = numd 0 a ++ (0 + (a.length : Int) + 2 * k + 1, [wRank, [49], wLeast]) :: numd (0 + a.length + 2 * k + 1) b := by
    have e := linesW_print hb []
    rw [List.append_nil, linesW_nil] at e
    rw [List.append_assoc, List.append_assoc, linesW_print ha, linesW_gap, linL_numd, linL_gap, linL_bad, e, linL_numd]
    rw [show linL (0 + (a.length : Int) + 2 * (k : Int) + 1 + (b.length : Int)) [[]] = [] from rfl, List.append_nil]
  have hc : (condG [wRank, [49], wLeast]).2 = false := condG_none rfl
  unfold parseG
  rw [if_neg (by simp only [List.length_append, badT, List.length_cons, List.length_nil]; omega), hL, if_neg (by rw [List.length_append, List.length_cons, numd_len, numd_len]; omega), parG_numd ha]
  unfold parG
  dsimp only
  rw [if_pos hc, Int.zero_add]
end Pv
end Go.Proofs.YtknidebojogodaaGreatDoor
/- LAW 13: strings.Repeat as a pure call. -/
set_option linter.unusedSimpArgs false
set_option linter.unusedVariables false
namespace Go.Proofs.YtknidebojogodaaGreatDoor
namespace Pv
open Go.RowKit
theorem args_strint (s : List UInt8) (k : IntKind) (n : Int) (X : Cx) (γ : Gh) (w : World) (vals : List Value) (h : RepL X γ w [.str s, .int k n] vals) : vals = [strV s, .int k n] := by
  obtain ⟨v, us, rfl, hv, hus⟩ := h.cons_inv
  rw [hv.str_inv, args_int k n X γ w us hus]; rfl
theorem call21 (s : List UInt8) (c : Nat) (hc : c ≤ 9223372036854775807) (hl : s.length * c ≤ 140737488355328) : PureCall Tryz.prog 21 [.str s, .int .i64 c] [] ⟨.str (Lib.repeatL s c), [], []⟩ :=
  pure_still ⟨_, Tryz.func21, rfl, rfl⟩ (args_strint s .i64 c) (fun _ _ _ => .str _) fun w hg =>
    (Sh.strings_Repeat ⟨s.toArray⟩ c w hc (by show s.toArray.size * c ≤ _; rw [List.size_toArray]; exact hl)).mono fun ev w' ⟨he, hb⟩ => ⟨he, keeps_below hb⟩
end Pv
end Go.Proofs.YtknidebojogodaaGreatDoor
/- LAW 13, THE WALKS: words of kinds. -/
set_option linter.unusedSimpArgs false
set_option linter.unusedVariables false
namespace Go.Proofs.YtknidebojogodaaGreatDoor
namespace Pv
def c13 : C := (.seq (.reg [⟨(some 2), 32, none, .mv (.c (.str []))⟩])
  (.seq (.seq (.reg [⟨(some 3), 48, none, .mv (.t 0)⟩,
    ⟨(some 4), 64, none, .bi false .lss (.t 3) (.c (.int .i64 0))⟩,
    ⟨(some 5), 80, none, .mv (.t 4)⟩,
    ⟨(some 6), 96, (some (5, false)), .mv (.t 0)⟩,
    ⟨(some 7), 112, (some (5, false)), .bi false .geq (.t 6) (.c (.int .i64 5))⟩,
    ⟨(some 8), 128, none, .pick (.t 5) (.c (.bool true)) (.t 7)⟩])
  (.cond (.t 8) (.seq (.reg [⟨(some 2), 32, none, .mv (.c (.str []))⟩])
  .ret) .skip))
  (.seq (.reg [⟨(some 9), 144, none, .mv (.t 0)⟩,
    ⟨(some 10), 160, none, .iaa 5 1 (.c (.rp 1 [(.str []), (.str [108, 101, 97, 115, 116]), (.str [109, 111, 115, 116]), (.str [117, 112]), (.str [100, 111, 119, 110])])) (.t 9)⟩,
    ⟨(some 11), 176, none, .ld 1 false (.t 10)⟩,
    ⟨(some 2), 32, none, .mv (.t 11)⟩])
  .ret)))
theorem fits13 : fits Tryz.prog false Tryz.f13 1 12 [(2, none)] = some c13.er := by kernel_rfl
theorem kind_cases {k : Int} (h : 0 ≤ k ∧ k < 5) : k = 0 ∨ k = 1 ∨ k = 2 ∨ k = 3 ∨ k = 4 := by omega
theorem kindW_out {k : Int} (h : k < 1 ∨ 4 < k) : kindW k = [] := by
  unfold kindW
  rw [if_neg (by omega), if_neg (by omega), if_neg (by omega), if_neg (by omega)]
theorem call13 (k : Int) : PureCall Tryz.prog 13 [.int .i64 k] [] ⟨.str (kindW k), [], []⟩ := by
  refine pure_call mix Tryz.func13 fits13 rfl ?_
  conv => whnf
  refine ⟨?_, fun hc => ?_, fun hc => ?_⟩
  · exact g0
  · simp only [bp] at hc
    rw [kindW_out (by omega)]
    conv => whnf
    exact ret
  · simp only [bp] at hc
    rcases kind_cases (k := k) (by omega) with rfl | rfl | rfl | rfl | rfl
    · rw [show kindW 0 = [] from rfl]
      conv => whnf
      exact ret
    · rw [show kindW 1 = wLeast from rfl]
      conv => whnf
      exact ret
    · rw [show kindW 2 = wMost from rfl]
      conv => whnf
      exact ret
    · rw [show kindW 3 = wUp from rfl]
      conv => whnf
      exact ret
    · rw [show kindW 4 = wDown from rfl]
      conv => whnf
      exact ret
end Pv
end Go.Proofs.YtknidebojogodaaGreatDoor
/- LAW 13, THE WALKS: equality of lists of conditions; the example. -/
set_option linter.unusedSimpArgs false
set_option linter.unusedVariables false
namespace Go.Proofs.YtknidebojogodaaGreatDoor
namespace Pv
def c20L1 : C := (.seq (.reg [⟨(some 14), 224, none, .bi false .lss (.t 13) (.t 12)⟩])
  (.seq (.cond (.t 14) .skip (.exit 0))
  (.seq (.block 1 (.seq (.reg [⟨(some 15), 240, none, .mv (.t 13)⟩,
    ⟨(some 5), 80, none, .mv (.t 15)⟩])
  (.seq (.drw [⟨(some 16), 256, none, .mv (.t 0)⟩,
    ⟨(some 17), 272, none, .mv (.t 5)⟩,
    ⟨(some 18), 288, none, .ia 7 (.t 16) (.t 17)⟩,
    ⟨(some 19), 304, none, .ld 7 true (.t 18)⟩,
    ⟨(some 20), 320, none, .mv (.t 1)⟩,
    ⟨(some 21), 336, none, .mv (.t 5)⟩,
    ⟨(some 22), 352, none, .ia 7 (.t 20) (.t 21)⟩,
    ⟨(some 23), 368, none, .ld 7 true (.t 22)⟩,
    ⟨(some 24), 384, none, .eqa true [0, 0, 0, 0, 0, 0, 0] (.t 19) (.t 23)⟩]
    [(0, 1, 16), (0, 4, 16), (0, 5, 16), (0, 6, 16), (0, 7, 16), (1, 4, 17), (1, 5, 17), (1, 6, 17), (1, 7, 17), (2, 4, 18), (2, 5, 18), (2, 6, 18), (2, 7, 18), (3, 4, 19), (3, 5, 19), (3, 6, 19), (3, 7, 19), (4, 5, 20)])
  (.cond (.t 24) (.seq (.reg [⟨(some 4), 64, none, .mv (.c (.bool false))⟩])
  .ret) .skip))))
  (.reg [⟨(some 25), 400, none, .bi false .add (.t 13) (.c (.int .i64 1))⟩,
    ⟨(some 13), 208, none, .mv (.t 25)⟩]))))
def c20 : C := (.seq (.reg [⟨(some 4), 64, none, .mv (.c (.bool false))⟩])
  (.seq (.seq (.reg [⟨(some 6), 96, none, .mv (.t 0)⟩,
    ⟨(some 7), 112, none, .len (.t 6)⟩,
    ⟨(some 8), 128, none, .mv (.t 1)⟩,
    ⟨(some 9), 144, none, .len (.t 8)⟩,
    ⟨(some 10), 160, none, .bi false .neq (.t 7) (.t 9)⟩])
  (.cond (.t 10) (.seq (.reg [⟨(some 4), 64, none, .mv (.c (.bool false))⟩])
  .ret) .skip))
  (.seq (.seq (.reg [⟨(some 11), 176, none, .mv (.t 0)⟩,
    ⟨(some 12), 192, none, .len (.t 11)⟩,
    ⟨(some 13), 208, none, .mv (.c (.int .i64 0))⟩])
  (.block 0 (.loop c20L1)))
  (.seq (.reg [⟨(some 4), 64, none, .mv (.c (.bool true))⟩])
  .ret))))
theorem fits20 : fits Tryz.prog false Tryz.f20 2 26 [(4, none)] = some c20.er := by kernel_rfl
def c6 : C := (.seq (.reg [⟨(some 0), 0, none, .mv (.c (.bool false))⟩])
  (.seq (.reg [⟨(some 5), 80, none, .call (.c (.fn (.func 18) [] [])) [(.c (.str [114, 97, 110, 107, 32, 51, 32, 108, 101, 97, 115, 116, 32, 49, 50, 48, 32, 97, 98, 111, 118, 101, 32, 53, 48, 48, 48, 32, 100, 97, 121, 115, 32, 54, 48, 32, 49, 53, 48]))]⟩,
    ⟨(some 4), 64, none, .mv (.t 5)⟩,
    ⟨(some 6), 96, none, .ex (.t 4) 0⟩,
    ⟨(some 7), 112, none, .ex (.t 4) 1⟩,
    ⟨(some 8), 128, none, .ex (.t 4) 2⟩,
    ⟨(some 1), 16, none, .mv (.t 6)⟩,
    ⟨(some 2), 32, none, .mv (.t 7)⟩,
    ⟨(some 3), 48, none, .mv (.t 8)⟩])
  (.seq (.reg [⟨(some 9), 144, none, .mv (.t 3)⟩,
    ⟨(some 10), 160, none, .bi false .eql (.t 9) (.c (.int .i64 0))⟩,
    ⟨(some 11), 176, none, .mv (.t 10)⟩,
    ⟨(some 12), 192, (some (11, true)), .mv (.t 2)⟩,
    ⟨(some 13), 208, (some (11, true)), .bi false .eql (.t 12) (.c (.int .i64 0))⟩,
    ⟨(some 14), 224, none, .pick (.t 11) (.t 13) (.c (.bool false))⟩,
    ⟨(some 15), 240, none, .mv (.t 14)⟩,
    ⟨(some 16), 256, (some (15, true)), .mv (.t 1)⟩,
    ⟨(some 17), 272, (some (15, true)), .len (.t 16)⟩,
    ⟨(some 18), 288, (some (15, true)), .bi false .eql (.t 17) (.c (.int .i64 1))⟩,
    ⟨(some 19), 304, none, .pick (.t 15) (.t 18) (.c (.bool false))⟩,
    ⟨(some 20), 320, none, .mv (.t 19)⟩,
    ⟨(some 21), 336, (some (20, true)), .mv (.t 1)⟩,
    ⟨(some 22), 352, (some (20, true)), .ia 7 (.t 21) (.c (.int .i64 0))⟩,
    ⟨(some 23), 368, (some (20, true)), .ld 7 true (.t 22)⟩,
    ⟨(some 24), 384, (some (20, true)), .bd [(.int .i64 0), (.int .i64 0)] [(0, 1, (.c (.int .i64 60))), (1, 1, (.c (.int .i64 150)))]⟩,
    ⟨(some 25), 400, (some (20, true)), .bd [(.int .i64 0), (.int .i64 0), (.int .i64 0), (.int .i64 0), (.int .i64 0), (.int .i64 0), (.int .i64 0)] [(0, 1, (.c (.int .i64 3))), (1, 1, (.c (.int .i64 1))), (2, 1, (.c (.int .i64 120))), (3, 2, (.t 24)), (5, 1, (.c (.int .i64 5000))), (6, 1, (.c (.int .i64 16777216)))]⟩,
    ⟨(some 26), 416, (some (20, true)), .eqa false [0, 0, 0, 0, 0, 0, 0] (.t 23) (.t 25)⟩,
    ⟨(some 27), 432, none, .pick (.t 20) (.t 26) (.c (.bool false))⟩,
    ⟨(some 28), 448, none, .mv (.t 27)⟩,
    ⟨(some 29), 464, (some (28, true)), .call (.c (.fn (.func 13) [] [])) [(.c (.int .i64 4))]⟩,
    ⟨(some 30), 480, (some (28, true)), .bi false .eql (.t 29) (.c (.str [100, 111, 119, 110]))⟩,
    ⟨(some 31), 496, none, .pick (.t 28) (.t 30) (.c (.bool false))⟩,
    ⟨(some 0), 0, none, .mv (.t 31)⟩])
  .ret)))
theorem fits6 : fits Tryz.prog false Tryz.f6 0 32 [(0, none)] = some c6.er := by kernel_rfl
theorem eq_cd (x y : Cd) : ((x.r == y.r) && ((x.k == y.k) && ((x.v == y.v) && ((x.f == y.f) && ((x.u == y.u) && ((x.a == y.a) && ((x.b == y.b) && true))))))) = decide (x = y) := by
  rw [Bool.eq_iff_iff]
  obtain ⟨a1, a2, a3, a4, a5, a6, a7⟩ := x
  obtain ⟨b1, b2, b3, b4, b5, b6, b7⟩ := y
  simp [and_assoc]
theorem list_ext_getD {α : Type} [Inhabited α] {a b : List α} (hl : a.length = b.length) (h : ∀ i, i < a.length → a.getD i default = b.getD i default) : a = b := by
  apply List.ext_getElem hl
  intro i h1 h2
  have := h i h1
  simpa [List.getD, h1, h2] using this
set_option maxRecDepth 100000 in
theorem call20 (τ τ' : Nat) (a b : List Cd) (ha : a.length ≤ 4611686018427387904) : PureCall Tryz.prog 20 [.sl τ 7 a.length (fl eCd a), .sl τ' 7 b.length (fl eCd b)] [] ⟨.bool (decide (a = b)), [], []⟩ := by
  refine pure_call mix Tryz.func20 fits20 rfl ?_
  conv => whnf
  refine ⟨trivial, fun hc => ?_, fun hc => ?_⟩
  · simp only [bp] at hc
    rw [decide_eq_false (p := a = b) (fun e => hc (by rw [e]))]
    conv => whnf
    exact ret
  simp only [bp] at hc
  have hl : a.length = b.length := by omega
  conv => whnf
  refine ⟨trivial, ?_⟩
  refine LSem.loop (n := 26) mix (α := Nat) (fun i => i ≤ a.length ∧ ∀ k, k < i → a.getD k default = b.getD k default)
    (fun i => [(0, .sl τ 7 a.length (fl eCd a)), (1, .sl τ' 7 b.length (fl eCd b)), (12, .int .i64 a.length), (13, .int .i64 i)])
    (fun i => []) (fun i => a.length - i) 0 ?_ ?_ ?_
  · exact ⟨Nat.zero_le _, fun k hk => absurd hk (Nat.not_lt_zero _)⟩
  · refine ⟨rfl, rfl, ?_, ?_⟩ <;> exact ent
  · rintro i ⟨hi, hall⟩
    have hj : ((i : Int)).toNat = i := by omega
    conv => whnf
    refine ⟨trivial, fun hc => ?_, fun hc => ?_⟩
    · replace hc := of_decide_eq_true hc
      have hlt : i < a.length := by
        have h : (i : Int) < a.length := hc
        omega
      conv => whnf
      rw [hj]
      refine ⟨rfl, ?_⟩
      conv => whnf
      have hE := eq_cd (a.getD i default) (b.getD i default)
      refine ⟨?_, fun h => ?_, fun h => ?_⟩
      · exact g0
      · replace h : (!((a.getD i default).r == (b.getD i default).r && ((a.getD i default).k == (b.getD i default).k && ((a.getD i default).v == (b.getD i default).v && ((a.getD i default).f == (b.getD i default).f && ((a.getD i default).u == (b.getD i default).u && ((a.getD i default).a == (b.getD i default).a && ((a.getD i default).b == (b.getD i default).b && true)))))))) = true := h
        rw [hE] at h
        rw [decide_eq_false (p := a = b) (fun e => by rw [e] at h; simp at h)]
        conv => whnf
        exact ret
      · replace h : (!((a.getD i default).r == (b.getD i default).r && ((a.getD i default).k == (b.getD i default).k && ((a.getD i default).v == (b.getD i default).v && ((a.getD i default).f == (b.getD i default).f && ((a.getD i default).u == (b.getD i default).u && ((a.getD i default).a == (b.getD i default).a && ((a.getD i default).b == (b.getD i default).b && true)))))))) = false := h
        rw [hE] at h
        have he : a.getD i default = b.getD i default := by
          generalize a.getD i default = x at h ⊢
          generalize b.getD i default = y at h ⊢
          simpa using h
        conv => whnf
        refine ⟨?_, i + 1, ⟨hlt, fun k hk => ?_⟩, by omega, rfl, rfl, ?_, ?_⟩
        · exact g0
        · by_cases e : k = i
          · rw [e]; exact he
          · exact hall k (by omega)
        · exact ent
        · exact ent
    · replace hc := of_decide_eq_false hc
      have hk : i = a.length := by
        have h : ¬ (i : Int) < a.length := hc
        omega
      subst hk
      rw [decide_eq_true (p := a = b) (list_ext_getD hl hall)]
      conv => whnf
      exact ret
theorem awake_text : parseG [114, 97, 110, 107, 32, 51, 32, 108, 101, 97, 115, 116, 32, 49, 50, 48, 32, 97, 98, 111, 118, 101, 32, 53, 48, 48, 48, 32, 100, 97, 121, 115, 32, 54, 48, 32, 49, 53, 48] = ([⟨3, 1, 120, 60, 150, 5000, 16777216⟩], 0, 0) := by decide +kernel
set_option maxRecDepth 100000 in
theorem call6 : PureCall Tryz.prog 6 [] [] ⟨.bool true, [], []⟩ := by
  refine pure_call mix Tryz.func6 fits6 rfl ?_
  have h := call18 [114, 97, 110, 107, 32, 51, 32, 108, 101, 97, 115, 116, 32, 49, 50, 48, 32, 97, 98, 111, 118, 101, 32, 53, 48, 48, 48, 32, 100, 97, 121, 115, 32, 54, 48, 32, 49, 53, 48] (by decide)
  rw [awake_text] at h
  conv => whnf
  refine ⟨_, fun _ => h, ?_⟩
  conv => whnf
  refine ⟨_, fun _ => call13 4, ?_⟩
  conv => whnf
  refine ⟨?_, [], ?_⟩
  · exact g0
  conv => whnf
  refine ⟨rfl, ?_, trivial, trivial⟩
  exact ent
end Pv
end Go.Proofs.YtknidebojogodaaGreatDoor
/- LAW 13: RulesLines answers true. -/
set_option linter.unusedSimpArgs false
set_option linter.unusedVariables false
namespace Go.Proofs.YtknidebojogodaaGreatDoor
namespace Pv
def c5 : C := (.seq (.reg [⟨(some 6), 96, none, .mv (.c (.bool false))⟩])
  (.seq (.reg [⟨(some 21), 336, none, .mv (.t 0)⟩,
    ⟨(some 22), 352, none, .call (.c (.fn (.func 8) [] [])) [(.t 21)]⟩,
    ⟨(some 23), 368, none, .call (.c (.fn (.func 7) [] [])) [(.t 22)]⟩,
    ⟨(some 24), 384, none, .mv (.t 1)⟩,
    ⟨(some 25), 400, none, .call (.c (.fn (.func 8) [] [])) [(.t 24)]⟩,
    ⟨(some 26), 416, none, .call (.c (.fn (.func 7) [] [])) [(.t 25)]⟩,
    ⟨(some 7), 112, none, .mv (.t 23)⟩,
    ⟨(some 8), 128, none, .mv (.t 26)⟩])
  (.seq (.reg [⟨(some 28), 448, none, .mv (.t 7)⟩,
    ⟨(some 29), 464, none, .call (.c (.fn (.func 9) [] [])) [(.t 28)]⟩,
    ⟨(some 27), 432, none, .mv (.t 29)⟩,
    ⟨(some 30), 480, none, .ex (.t 27) 0⟩,
    ⟨(some 31), 496, none, .ex (.t 27) 1⟩,
    ⟨(some 9), 144, none, .mv (.t 30)⟩,
    ⟨(some 10), 160, none, .mv (.t 31)⟩])
  (.seq (.reg [⟨(some 33), 528, none, .mv (.t 8)⟩,
    ⟨(some 34), 544, none, .call (.c (.fn (.func 9) [] [])) [(.t 33)]⟩,
    ⟨(some 32), 512, none, .mv (.t 34)⟩,
    ⟨(some 35), 560, none, .ex (.t 32) 0⟩,
    ⟨(some 36), 576, none, .ex (.t 32) 1⟩,
    ⟨(some 11), 176, none, .mv (.t 35)⟩,
    ⟨(some 12), 192, none, .mv (.t 36)⟩])
  (.seq (.reg [⟨(some 37), 592, none, .mv (.t 2)⟩,
    ⟨(some 38), 608, none, .call (.c (.fn (.func 15) [] [])) [(.t 37), (.c (.int .i64 5))]⟩,
    ⟨(some 13), 208, none, .mv (.t 38)⟩])
  (.seq (.reg [⟨(some 39), 624, none, .mv (.t 13)⟩,
    ⟨(some 40), 640, none, .call (.c (.fn (.func 21) [] [])) [(.c (.str [32, 32, 35, 32, 108, 101, 97, 115, 116, 10, 10])), (.t 39)]⟩,
    ⟨(some 14), 224, none, .mv (.t 40)⟩])
  (.seq (.reg [⟨(some 42), 672, none, .mv (.t 9)⟩,
    ⟨(some 43), 688, none, .mv (.t 14)⟩,
    ⟨(some 44), 704, none, .bi false .add (.t 42) (.t 43)⟩,
    ⟨(some 45), 720, none, .mv (.t 11)⟩,
    ⟨(some 46), 736, none, .bi false .add (.t 44) (.t 45)⟩,
    ⟨(some 47), 752, none, .call (.c (.fn (.func 18) [] [])) [(.t 46)]⟩,
    ⟨(some 41), 656, none, .mv (.t 47)⟩,
    ⟨(some 48), 768, none, .ex (.t 41) 0⟩,
    ⟨(some 49), 784, none, .ex (.t 41) 1⟩,
    ⟨(some 50), 800, none, .ex (.t 41) 2⟩,
    ⟨(some 15), 240, none, .mv (.t 48)⟩,
    ⟨(some 16), 256, none, .mv (.t 49)⟩,
    ⟨(some 17), 272, none, .mv (.t 50)⟩])
  (.seq (.reg [⟨(some 52), 832, none, .mv (.t 9)⟩,
    ⟨(some 53), 848, none, .mv (.t 14)⟩,
    ⟨(some 54), 864, none, .bi false .add (.t 52) (.t 53)⟩,
    ⟨(some 55), 880, none, .bi false .add (.t 54) (.c (.str [114, 97, 110, 107, 32, 49, 32, 108, 101, 97, 115, 116, 10]))⟩,
    ⟨(some 56), 896, none, .mv (.t 11)⟩,
    ⟨(some 57), 912, none, .bi false .add (.t 55) (.t 56)⟩,
    ⟨(some 58), 928, none, .call (.c (.fn (.func 18) [] [])) [(.t 57)]⟩,
    ⟨(some 51), 816, none, .mv (.t 58)⟩,
    ⟨(some 59), 944, none, .ex (.t 51) 0⟩,
    ⟨(some 60), 960, none, .ex (.t 51) 1⟩,
    ⟨(some 61), 976, none, .ex (.t 51) 2⟩,
    ⟨(some 18), 288, none, .mv (.t 59)⟩,
    ⟨(some 19), 304, none, .mv (.t 60)⟩,
    ⟨(some 20), 320, none, .mv (.t 61)⟩])
  (.seq (.reg [⟨(some 62), 992, none, .mv (.t 10)⟩,
    ⟨(some 63), 1008, none, .mv (.t 12)⟩,
    ⟨(some 64), 1024, none, .bi false .add (.t 62) (.t 63)⟩,
    ⟨(some 65), 1040, none, .mv (.t 17)⟩,
    ⟨(some 66), 1056, none, .bi false .add (.t 64) (.t 65)⟩,
    ⟨(some 67), 1072, none, .bi false .eql (.t 66) (.c (.int .i64 0))⟩,
    ⟨(some 68), 1088, none, .mv (.t 67)⟩,
    ⟨(some 69), 1104, (some (68, true)), .mv (.t 16)⟩,
    ⟨(some 70), 1120, (some (68, true)), .bi false .eql (.t 69) (.c (.int .i64 0))⟩,
    ⟨(some 71), 1136, none, .pick (.t 68) (.t 70) (.c (.bool false))⟩,
    ⟨(some 72), 1152, none, .mv (.t 71)⟩,
    ⟨(some 73), 1168, (some (72, true)), .mv (.t 15)⟩,
    ⟨(some 74), 1184, (some (72, true)), .mv (.t 7)⟩,
    ⟨(some 75), 1200, (some (72, true)), .app 49 7 56 (.c (.nil 7)) (.t 74)⟩,
    ⟨(some 76), 1216, (some (72, true)), .mv (.t 8)⟩,
    ⟨(some 77), 1232, (some (72, true)), .app 49 7 56 (.t 75) (.t 76)⟩,
    ⟨(some 78), 1248, (some (72, true)), .call (.c (.fn (.func 20) [] [])) [(.t 73), (.t 77)]⟩,
    ⟨(some 79), 1264, none, .pick (.t 72) (.t 78) (.c (.bool false))⟩,
    ⟨(some 80), 1280, none, .mv (.t 79)⟩,
    ⟨(some 81), 1296, (some (80, true)), .mv (.t 20)⟩,
    ⟨(some 82), 1312, (some (80, true)), .bi false .eql (.t 81) (.c (.int .i64 7))⟩,
    ⟨(some 83), 1328, none, .pick (.t 80) (.t 82) (.c (.bool false))⟩,
    ⟨(some 84), 1344, none, .mv (.t 83)⟩,
    ⟨(some 85), 1360, (some (84, true)), .mv (.t 19)⟩,
    ⟨(some 86), 1376, (some (84, true)), .mv (.t 7)⟩,
    ⟨(some 87), 1392, (some (84, true)), .len (.t 86)⟩,
    ⟨(some 88), 1408, (some (84, true)), .mv (.t 13)⟩,
    ⟨(some 89), 1424, (some (84, true)), .bi false .mul (.c (.int .i64 2)) (.t 88)⟩,
    ⟨(some 90), 1440, (some (84, true)), .bi false .add (.t 87) (.t 89)⟩,
    ⟨(some 91), 1456, (some (84, true)), .bi false .add (.t 90) (.c (.int .i64 1))⟩,
    ⟨(some 92), 1472, (some (84, true)), .bi false .eql (.t 85) (.t 91)⟩,
    ⟨(some 93), 1488, none, .pick (.t 84) (.t 92) (.c (.bool false))⟩,
    ⟨(some 94), 1504, none, .mv (.t 93)⟩,
    ⟨(some 95), 1520, (some (94, true)), .call (.c (.fn (.func 6) [] [])) []⟩,
    ⟨(some 96), 1536, none, .pick (.t 94) (.t 95) (.c (.bool false))⟩,
    ⟨(some 6), 96, none, .mv (.t 96)⟩])
  .ret)))))))))
theorem fits5 : fits Tryz.prog false Tryz.f5 3 97 [(6, none)] = some c5.er := by kernel_rfl
theorem app_eqC {l l' : List Cd} : RowEq (l.length + l'.length) (appF l.length (fl eCd l) (fl eCd l')) (fl eCd (l ++ l')) := fun i hi => by
  unfold appF
  split
  · rename_i h
    simp only [fl, List.getD, List.getElem?_append_left h]
  · rename_i h
    simp only [fl, List.getD, List.getElem?_append_right (Nat.le_of_not_lt h)]
set_option maxRecDepth 100000 in
set_option maxHeartbeats 8000000 in
theorem call5 (l m : List Int) (n : Int) (hn : -9223372036854775808 ≤ n ∧ n ≤ 9223372036854775807) : PureCall Tryz.prog 5 [.sl 1 1 l.length (fl eInt l), .sl 1 1 m.length (fl eInt m), .int .i64 n] [] ⟨.bool true, [], []⟩ := by
  refine pure_call mix Tryz.func5 fits5 rfl ?_
  conv => whnf
  refine ⟨_, fun _ => call_new 1 l, ?_⟩
  conv => whnf
  refine ⟨_, fun _ => call7 ⟨l, 0⟩ (by dsimp only; omega), ?_⟩
  obtain ⟨hA1, hA2, hA3⟩ := made_ok ⟨l, 0⟩
  generalize (condsF ⟨l, 0⟩).1 = A at hA1 hA2 hA3 ⊢
  conv => whnf
  refine ⟨_, fun _ => call_new 1 m, ?_⟩
  conv => whnf
  refine ⟨_, fun _ => call7 ⟨m, 0⟩ (by dsimp only; omega), ?_⟩
  obtain ⟨hB1, hB2, hB3⟩ := made_ok ⟨m, 0⟩
  generalize (condsF ⟨m, 0⟩).1 = B at hB1 hB2 hB3 ⊢
  have hAl := printC_len hA2
  have hBl := printC_len hB2
  conv => whnf
  refine ⟨_, fun _ => call9 _ A hA1, ?_⟩
  conv => whnf
  refine ⟨_, fun _ => call9 _ B hB1, ?_⟩
  conv => whnf
  refine ⟨_, fun _ => call_mod n 5 (by decide) (by decide), ?_⟩
  have hk0 := Int.emod_nonneg n (show (5 : Int) ≠ 0 by decide)
  have hk1 := Int.emod_lt_of_pos n (show (0 : Int) < 5 by decide)
  obtain ⟨k, hk⟩ : ∃ k : Nat, (k : Int) = n % 5 := ⟨(n % 5).toNat, by omega⟩
  rw [← hk] at hk0 hk1 ⊢
  have hkl : k ≤ 4 := by omega
  have hgl := repeat_len k
  conv => whnf
  refine ⟨_, fun _ => call21 gap1 k (by omega) (by show 11 * k ≤ _; omega), ?_⟩
  have h1 := call18 ((printC A ++ Lib.repeatL gap1 k) ++ printC B) (by simp only [List.length_append]; omega)
  rw [parse_two hA2 hB2 hA3 hB3 hkl] at h1
  conv => whnf
  refine ⟨_, fun _ => h1, ?_⟩
  have h2 := call18 (((printC A ++ Lib.repeatL gap1 k) ++ badT) ++ printC B) (by simp only [List.length_append, badT, List.length_cons, List.length_nil]; omega)
  rw [parse_bad hA2 hB2 hA3 hB3 hkl] at h2
  conv => whnf
  refine ⟨_, fun _ => h2, ?_⟩
  have lab : (A ++ B).length = A.length + B.length := List.length_append
  have hS := call20 1 2 (A ++ B) (A ++ B) (by omega)
  rw [decide_eq_true (p := A ++ B = A ++ B) rfl] at hS
  conv => whnf
  refine ⟨_, fun _ => PureCall.arg_le hS rfl ⟨⟨Nat.le_refl _, rfl, rfl, fun _ _ => rfl⟩, ⟨Nat.le_refl _, rfl, lab.symm, app_eqC⟩, trivial⟩, ?_⟩
  conv => whnf
  refine ⟨_, fun _ => call6, ?_⟩
  have hE : ((A.length : Int) + 2 * (k : Int) + 1 == (A.length : Int) + 2 * (k : Int) + 1) = true := by simp
  conv => whnf
  refine ⟨?_, [], ?_⟩
  · (try conv => whnf)
    simp only [List.length_append]
    exact g0
  conv => whnf
  refine ⟨rfl, ?_, trivial, trivial⟩
  show PLe _ _ _ _
  conv => whnf
  rw [hE]; rfl
end Pv
end Go.Proofs.YtknidebojogodaaGreatDoor
/- ARGUMENTS AS THEY COME IN: what a readable argument stands for. -/
set_option linter.unusedSimpArgs false
set_option linter.unusedVariables false
namespace Go.Proofs.YtknidebojogodaaGreatDoor
namespace Pv
open Go.RowKit Go.ChangeShapes
inductive Sh where
  | int (k : IntKind)
  | bool
  | str
  | sl (shs : List Sh)
  deriving Inhabited
inductive ShR : Sh → PV → Prop where
  | int (k : IntKind) (n : Int) (h : inR k n) : ShR (.int k) (.int k n)
  | bool (b : Bool) : ShR .bool (.bool b)
  | str (s : List UInt8) (h : s.length ≤ maxLen) : ShR .str (.str s)
  | sl (shs : List Sh) (n : Nat) (f : Nat → List PV) (hn : n ≤ maxLen) (h1 : ∀ i, i < n → (f i).length = shs.length)
      (h2 : ∀ (i j : Nat) (s : Sh) (p : PV), i < n → shs[j]? = some s → (f i)[j]? = some p → ShR s p) : ShR (.sl shs) (.sl 1 shs.length n f)
def ShL (shs : List Sh) (ps : List PV) : Prop := ps.length = shs.length ∧ ∀ (j : Nat) (s : Sh) (p : PV), shs[j]? = some s → ps[j]? = some p → ShR s p
def fieldSh (sh : TypeId → Option (List Sh)) (P : Program) : Nat → List Field → Option (List Sh)
  | _, [] => some []
  | off, f :: fs => if f.offset = off then match sh f.type with
      | some s => if s.length = P.cellsOf f.type then match fieldSh sh P (off + s.length) fs with
          | some r => some (s ++ r)
          | none => none
        else none
      | none => none
    else none
def shp (P : Program) : Nat → TypeId → Option (List Sh)
  | 0, _ => none
  | m + 1, t => match P.underlying t with
    | some .bool => some [.bool]
    | some (.int k) => some [.int k]
    | some .string => some [.str]
    | some (.slice e) => match shp P m e with
      | some s => if s.length = P.cellsOf e ∧ 0 < s.length then some [.sl s] else none
      | none => none
    | some (.struct fs) => match fieldSh (shp P m) P 0 fs.toList with
      | some s => if s.length = P.cellsOf t then some s else none
      | none => none
    | _ => none
theorem ShR.flat {s : Sh} {p : PV} (h : ShR s p) : p.flat = true := by cases h <;> rfl
theorem ShR.mark1 {s : Sh} {p : PV} (h : ShR s p) : p.mark 1 = p := by cases h <;> rfl
theorem ShL.append {a b : List Sh} {x y : List PV} (h : ShL a x) (h' : ShL b y) : ShL (a ++ b) (x ++ y) := by
  refine ⟨by simp [h.1, h'.1], fun j s p hs hp => ?_⟩
  rw [List.getElem?_append] at hs hp
  rw [h.1] at hp
  split at hs
  · rename_i hj; rw [if_pos hj] at hp; exact h.2 j s p hs hp
  · rename_i hj; rw [if_neg hj] at hp; exact h'.2 _ s p hs hp
section
variable {H : Type} {enc : TypeId × Value → H} {P : Program} {w : World} {sp : Nat → Bool} {held : Bool} {X : Cx} {γ : Gh}
theorem trod_fields {m n : Nat} {cs : List Value} {xs : List (DataW H × List MemPlace)}
    (ih : ∀ (t : TypeId) (cs : List Value) (x : DataW H × List MemPlace) (shs : List Sh), shp P m t = some shs → DataW.trod enc P w 0 sp held n t cs = some x → ∃ ps, ShL shs ps ∧ RepL X γ w ps cs ∧ ∀ u ∈ cs, u.oneCell' = true) :
    ∀ (fs : List Field) (off k : Nat) (shs : List Sh), fieldSh (shp P m) P off fs = some shs → off + shs.length = cs.length → (∀ i f, fs[i]? = some f → DataW.trod enc P w 0 sp held n f.type ((cs.drop f.offset).take (P.cellsOf f.type)) = xs[k + i]?) → k + fs.length = xs.length →
      ∃ ps, ShL shs ps ∧ RepL X γ w ps (cs.drop off) ∧ ∀ u ∈ cs.drop off, u.oneCell' = true
  | [], off, k, shs, h, hl, hx, hk => by
    simp only [fieldSh, Option.some.injEq] at h; subst h
    have e : cs.drop off = [] := List.drop_eq_nil_of_le (by simpa using hl.symm ▸ Nat.le_refl _)
    rw [e]
    exact ⟨[], ⟨rfl, fun j s p hs => by simp at hs⟩, RepL.nil_, by simp⟩
  | f :: fs, off, k, shs, h, hl, hx, hk => by
    simp only [fieldSh] at h
    split at h
    · rename_i hoff
      split at h
      · rename_i s hs
        split at h
        · rename_i hsl
          split at h
          · rename_i r hr
            injection h with h; subst h
            simp only [List.length_append] at hl
            obtain ⟨ps', h1, h2, h3⟩ := trod_fields (cs := cs) ih fs (off + s.length) (k + 1) r hr (by omega) (fun i f' hf => by
              have := hx (i + 1) f' (by simpa using hf)
              rw [show k + (i + 1) = k + 1 + i from by omega] at this; exact this) (by simp only [List.length_cons] at hk; omega)
            have h0 := hx 0 f rfl
            have hk0 : k + 0 < xs.length := by simp only [List.length_cons] at hk; omega
            rw [List.getElem?_eq_getElem hk0] at h0
            obtain ⟨ps, g1, g2, g3⟩ := ih _ _ _ _ hs h0
            rw [hoff, ← hsl] at g2 g3
            have e : cs.drop off = (cs.drop off).take s.length ++ cs.drop (off + s.length) := by
              rw [← List.drop_drop, List.take_append_drop]
            refine ⟨ps ++ ps', g1.append h1, ?_, ?_⟩
            · rw [e]; exact g2.append h2
            · rw [e]
              intro u hu
              rcases List.mem_append.1 hu with hu | hu
              · exact g3 u hu
              · exact h3 u hu
          · cases h
        · cases h
      · cases h
    · cases h
theorem trod_rep (hX : ∀ b, b < w.heap.size → mayLie X γ 1 b) : ∀ (m fuel : Nat) (t : TypeId) (cs : List Value) (x : DataW H × List MemPlace) (shs : List Sh), shp P m t = some shs → DataW.trod enc P w 0 sp held fuel t cs = some x →
    ∃ ps, ShL shs ps ∧ RepL X γ w ps cs ∧ ∀ u ∈ cs, u.oneCell' = true := by
  have one : ∀ (s : Sh) (p : PV) (v : Value), ShR s p → Rep X γ w p v → v.oneCell' = true → ∃ ps, ShL [s] ps ∧ RepL X γ w ps [v] ∧ ∀ u ∈ [v], u.oneCell' = true := fun s p v h1 h2 h3 =>
    ⟨[p], ⟨rfl, fun j s' p' hs hp => by
      cases j with
      | zero => simp only [List.getElem?_cons_zero, Option.some.injEq] at hs hp; subst hs; subst hp; exact h1
      | succ j => simp at hs⟩, RepL.cons_ h2 RepL.nil_, by simpa using h3⟩
  intro m
  induction m with
  | zero => intro fuel t cs x shs h; simp [shp] at h
  | succ m ih =>
    intro fuel t cs x shs h hd
    simp only [shp] at h
    split at h
    · rename_i ht
      injection h with h; subst h
      obtain ⟨b, rfl, _⟩ := DataW.trod_bool ht hd
      exact one _ _ _ (.bool b) (.bool b) rfl
    · rename_i k ht
      injection h with h; subst h
      obtain ⟨n, rfl, _, hw⟩ := DataW.trod_int ht hd
      simp only [Lit.wf, Bool.and_eq_true, decide_eq_true_eq] at hw
      exact one _ _ _ (.int k n hw) (.int k n) rfl
    · rename_i ht
      injection h with h; subst h
      obtain ⟨s, rfl, _, hw⟩ := DataW.trod_string ht hd
      have e : s = ⟨s.data.toList.toArray⟩ := by cases s; simp
      refine one _ (.str s.data.toList) _ (.str _ (by rw [Array.length_toList]; exact hw)) ?_ rfl
      have := Rep.str (X := X) (γ := γ) (w := w) s.data.toList
      rwa [← e] at this
    · rename_i e ht
      split at h
      · rename_i s hs
        split at h
        · rename_i hc
          obtain ⟨hsl, hpos⟩ := hc
          injection h with h; subst h
          rcases DataW.trod_slice ht hd with ⟨rfl, _⟩ | ⟨a, len, cap, elems, rest, n, hf, rfl, _, hb, hlc, hcm, hel, helem, _, _⟩
          · refine one _ (.sl 1 s.length 0 (fun _ => [])) _ (.sl s 0 _ (Nat.zero_le _) (fun i hi => by omega) (fun i j s p hi => by omega)) ?_ rfl
            exact .sl 1 _ 0 _ none 0 (fun _ => undef) (Nat.le_refl _) (fun i hi => by omega) (fun i hi => by omega) (fun hi => by omega) (fun i j c hi => by omega)
          · have hex : ∀ i, ∃ ps, i < len → ShL s ps ∧ ∃ cs', w.cells? 0 (a.add (i * P.cellsOf e)) (P.cellsOf e) = some cs' ∧ RepL X γ w ps cs' := fun i => by
              by_cases hi : i < len
              · have h1 := helem i hi
                rw [List.getElem?_eq_getElem (by omega)] at h1
                obtain ⟨cs', h2, h3⟩ := Option.bind_eq_some_iff.1 h1
                obtain ⟨ps, g1, g2, _⟩ := ih _ _ _ _ _ hs h3
                exact ⟨ps, fun _ => ⟨g1, cs', h2, g2⟩⟩
              · exact ⟨[], fun h => absurd h hi⟩
            let f : Nat → List PV := fun i => Classical.choose (hex i)
            have hf' : ∀ i, i < len → ShL s (f i) ∧ ∃ cs', w.cells? 0 (a.add (i * P.cellsOf e)) (P.cellsOf e) = some cs' ∧ RepL X γ w (f i) cs' := fun i => Classical.choose_spec (hex i)
            have hcell : ∀ i j, i < len → j < s.length → ∃ u p, w.cell? (a.add (i * s.length + j)) = some u ∧ (f i)[j]? = some p ∧ Rep X γ w p u := fun i j hi hj => by
              obtain ⟨g1, cs', g2, g3⟩ := hf' i hi
              obtain ⟨_, k2, k3⟩ := World.cells?_some g2
              have hj' : j < cs'.length := by rw [k2, ← hsl]; exact hj
              have hk := k3 j (by rw [← hsl]; exact hj)
              rw [List.getElem?_eq_getElem hj', add_add_, ← hsl] at hk
              have hpj : j < (f i).length := by rw [g1.1]; exact hj
              exact ⟨_, _, hk, List.getElem?_eq_getElem hpj, g3.2 j _ _ (List.getElem?_eq_getElem hpj) (List.getElem?_eq_getElem hj')⟩
            refine one _ (.sl 1 s.length len f) _ (.sl s len f (Nat.le_trans hlc hcm) (fun i hi => (hf' i hi).1.1) (fun i j s' p hi hs' hp => (hf' i hi).1.2 j s' p hs' hp)) ?_ rfl
            have hsh : ∀ i, i < len → ∀ c ∈ f i, ∃ s', ShR s' c := fun i hi c hc => by
              obtain ⟨j, hj⟩ := List.getElem?_of_mem hc
              have hlt := (List.getElem?_eq_some_iff.1 hj).1
              have hlt2 : j < s.length := by rw [← (hf' i hi).1.1]; exact hlt
              exact ⟨_, (hf' i hi).1.2 j _ _ (List.getElem?_eq_getElem hlt2) hj⟩
            refine .sl 1 s.length len f (some a) cap (fun k => (w.cell? (a.add k)).getD undef) hlc (fun i hi => (hf' i hi).1.1) (fun i hi c hc => by obtain ⟨s', h⟩ := hsh i hi c hc; exact h.flat) (fun hn => ?_) (fun i j c hi hc => ?_)
            · obtain ⟨u, p, h1, _, _⟩ := hcell 0 0 hn hpos
              have hblk : a.block < w.heap.size := by
                obtain ⟨_, cs', g2, _⟩ := hf' 0 hn
                have := World.cells?_block g2 (by omega)
                have e : (a.add (0 * P.cellsOf e)).block = a.block := by unfold Addr.add; split <;> rfl
                rwa [e] at this
              refine ⟨a, rfl, hX _ hblk, hblk, fun k hk => ?_⟩
              have hk1 : k / s.length < len := by rw [Nat.div_lt_iff_lt_mul hpos]; exact hk
              obtain ⟨u, p, h1, _, _⟩ := hcell (k / s.length) (k % s.length) hk1 (Nat.mod_lt _ hpos)
              rw [Nat.mul_comm, Nat.div_add_mod] at h1
              rw [h1]; rfl
            · have hj : j < s.length := by rw [← (hf' i hi).1.1]; exact (List.getElem?_eq_some_iff.1 hc).1
              obtain ⟨u, p, h1, h2, h3⟩ := hcell i j hi hj
              rw [h2] at hc; injection hc with hc; subst hc
              obtain ⟨s', h⟩ := hsh i hi p (List.mem_of_getElem? h2)
              rw [h.mark1, h1]; exact h3
        · cases h
      · cases h
    · rename_i fs ht
      split at h
      · rename_i s hs
        split at h
        · rename_i hsl
          injection h with h; subst h
          obtain ⟨xs, n, rfl, _, hcl, hxl, hx⟩ := DataW.trod_struct ht hd
          obtain ⟨ps, h1, h2, h3⟩ := trod_fields (cs := cs) (xs := xs) (ih n) fs.toList 0 0 s hs (by omega) (fun i f hf => by rw [Nat.zero_add]; exact hx i f (by simpa using hf)) (by simpa using hxl.symm)
          exact ⟨ps, h1, by simpa using h2, by simpa using h3⟩
        · cases h
      · cases h
    · cases h
end
end Pv
end Go.Proofs.YtknidebojogodaaGreatDoor
/- A LAW's ROW, FROM ITS FUNCTION's CONTRACT. -/
set_option linter.unusedSimpArgs false
set_option linter.unusedVariables false
namespace Go.Proofs.YtknidebojogodaaGreatDoor
namespace Pv
open Go.RowKit Go.ChangeShapes
section
variable {H : Type} {enc : TypeId × Value → H} {P : Program} {w : World} {sp : Nat → Bool} {held : Bool}
def cx0 (w : World) : Cx := ⟨w.heap.size, fun b => b < w.heap.size, fun _ => False, 0, fun _ => none⟩
def gh0 : Gh := fun _ => none
theorem gh0_own (b : Nat) : ¬ gh0.own b := by rintro ⟨r, ge, h, _⟩; cases h
theorem lie0 (b : Nat) (hb : b < w.heap.size) : mayLie (cx0 w) gh0 1 b := ⟨gh0_own b, .inr (.inl ⟨Nat.le_refl _, hb⟩)⟩
def GlobOK (w : World) : Prop := ∀ b p, glob b = some p → ∃ o, w.heap[b]? = some o ∧ p o
theorem globOK_none (h : ∀ b, glob b = none) : GlobOK w := fun b p hb => by rw [h b] at hb; cases hb
theorem st0 (hgl : GlobOK w) : RepSt (cx0 w) gh0 w (fun r => ([] : List SE)[r]?) :=
  ⟨fun r => by simp [gh0], fun r ge e h => (by cases h), fun r r' ge ge' b h => (by cases h), fun b hb => absurd hb (gh0_own b), fun b hb => absurd hb (gh0_own b), fun b p hb => ⟨hgl b p hb, gh0_own b, by
    obtain ⟨o, h1, _⟩ := hgl b p hb
    exact (Array.getElem?_eq_some_iff.1 h1).1⟩⟩
theorem law_calls (hgl : GlobOK w) {f : FuncId} {args : List PV} {vals : List Value} (h : PureCall P f args [] ⟨.bool true, [], []⟩) (hr : RepL (cx0 w) gh0 w args vals) :
    Calls P f vals.toArray w fun e w' => e = .returned (.bool true) ∧ Below w.heap.size w w' := by
  have hst : RepSt ⟨w.heap.size, (cx0 w).as, (cx0 w).ls, ([] : List SE).length, gh0⟩ gh0 w (fun r => ([] : List SE)[r]?) :=
    st0 (w := w) hgl
  refine (h.2 w gh0 (cx0 w).as (cx0 w).ls vals hst (fun b hb => hb.elim (fun h => h) (fun h => h.elim)) hr).mono ?_
  rintro e w' ⟨v, γ', rfl, hv, _, hk, _, _⟩
  cases hv.bool_inv
  exact ⟨rfl, hk.os, hk.tape, hk.output, hk.size, fun k hk' => hk.block k hk' (gh0_own k)⟩
theorem arg_one {m : Nat} {t : TypeId} {s : Sh} {v : Value} {d : DataW H} {ps : List MemPlace} (hs : shp P m t = some [s]) (hv : v.oneCell' = true) (h : DataW.Trod enc P w 0 sp held t v d ps) : ∃ p, ShR s p ∧ Rep (cx0 w) gh0 w p v := by
  obtain ⟨fuel, hf⟩ := h
  rw [cells_one hv] at hf
  obtain ⟨ps, h1, h2, _⟩ := trod_rep (X := cx0 w) (γ := gh0) lie0 _ _ _ _ _ _ hs hf
  obtain ⟨h1, h1'⟩ := h1
  match ps, h1 with
  | [p], _ =>
    obtain ⟨u, us, hu, hr, _⟩ := h2.cons_inv
    simp only [List.cons.injEq] at hu
    exact ⟨p, h1' 0 s p rfl rfl, by rw [hu.1]; exact hr⟩
theorem arg_agg {m : Nat} {t : TypeId} {shs : List Sh} {cs : Array Value} {d : DataW H} {ps : List MemPlace} (hs : shp P m t = some shs) (h : DataW.Trod enc P w 0 sp held t (.agg cs) d ps) : ∃ qs, ShL shs qs ∧ Rep (cx0 w) gh0 w (.agg qs) (.agg cs) := by
  obtain ⟨fuel, hf⟩ := h
  obtain ⟨qs, h1, h2, h3⟩ := trod_rep (X := cx0 w) (γ := gh0) lie0 _ _ _ _ _ _ hs hf
  have := Rep.agg qs cs.toList h2.1 h3 h2.2
  exact ⟨qs, h1, by simpa using this⟩
theorem Rep.le0 (hgl : GlobOK w) {p q : PV} {v : Value} (h : Rep (cx0 w) gh0 w p v) (hl : PLe (fun r => ([] : List SE)[r]?) (fun _ => true) p q) : Rep (cx0 w) gh0 w q v :=
  h.le (γk := gh0) (st0 hgl) (fun r ge b τ e z n f hr => (by cases hr)) (fun r ge hr _ => hr) (fun r ge hr => ⟨hr, rfl⟩) q hl
theorem sh_list (hgl : GlobOK w) {α : Type} [Inhabited α] (e : α → List PV) (Q : α → Prop) {shs : List Sh} (hdec : ∀ ps, ShL shs ps → ∃ x, ps = e x ∧ Q x) {p : PV} (h : ShR (.sl shs) p) {v : Value} (hr : Rep (cx0 w) gh0 w p v) :
    ∃ l : List α, Rep (cx0 w) gh0 w (.sl 1 shs.length l.length (fl e l)) v ∧ l.length ≤ maxLen ∧ ∀ x ∈ l, Q x := by
  cases h with
  | sl _ n f hn h1 h2 =>
    have hx : ∀ i, ∃ x, i < n → f i = e x ∧ Q x := fun i => by
      by_cases hi : i < n
      · obtain ⟨x, hx⟩ := hdec (f i) ⟨h1 i hi, fun j s p hs hp => h2 i j s p hi hs hp⟩
        exact ⟨x, fun _ => hx⟩
      · exact ⟨default, fun h => absurd h hi⟩
    let g : Nat → α := fun i => Classical.choose (hx i)
    have hg : ∀ i, i < n → f i = e (g i) ∧ Q (g i) := fun i => Classical.choose_spec (hx i)
    refine ⟨(List.range n).map g, hr.le0 hgl ?_, by simpa using hn, fun x hm => ?_⟩
    · refine ⟨Nat.le_refl _, rfl, by simp, fun i hi => ?_⟩
      rw [(hg i hi).1]
      simp [fl, List.getD_eq_getElem?_getD, hi]
    · obtain ⟨i, hi, rfl⟩ := List.mem_map.1 hm
      exact (hg i (List.mem_range.1 hi)).2
theorem sh_int {k : IntKind} {p : PV} (h : ShR (.int k) p) : ∃ n, p = .int k n ∧ inR k n := by cases h with | int _ n h => exact ⟨n, rfl, h⟩
theorem sh_bool {p : PV} (h : ShR .bool p) : ∃ b, p = .bool b := by cases h with | bool b => exact ⟨b, rfl⟩
theorem sh_str {p : PV} (h : ShR .str p) : ∃ s, p = .str s ∧ s.length ≤ maxLen := by cases h with | str s h => exact ⟨s, rfl, h⟩
theorem shl_cons {s : Sh} {ss : List Sh} {ps : List PV} (h : ShL (s :: ss) ps) : ∃ p qs, ps = p :: qs ∧ ShR s p ∧ ShL ss qs := by
  obtain ⟨h1, h2⟩ := h
  match ps, h1 with
  | p :: qs, h1 => exact ⟨p, qs, rfl, h2 0 s p rfl rfl, by simpa using h1, fun j s' p' hs hp => h2 (j + 1) s' p' (by simpa using hs) (by simpa using hp)⟩
theorem shl_nil {ps : List PV} (h : ShL [] ps) : ps = [] := List.eq_nil_of_length_eq_zero h.1
end
end Pv
end Go.Proofs.YtknidebojogodaaGreatDoor
/- A LAW's ROW, FROM ITS FUNCTION's CONTRACT: how long slices are that came in. -/
set_option linter.unusedSimpArgs false
set_option linter.unusedVariables false
namespace Go.Proofs.YtknidebojogodaaGreatDoor
namespace Pv
open Go.RowKit Go.ChangeShapes
section
variable {H : Type} {enc : TypeId × Value → H} {P : Program} {w : World} {sp : Nat → Bool} {held : Bool}
theorem sized_len {ts : List TypeId} {ds : List (DataW H)} (hz : (DataW.weightsEach P ts ds).all (· ≤ reachBytes) = true) {j : Nat} {t e : TypeId} {d : DataW H} {ps : List MemPlace} {a : Option Addr} {len cap : Nat}
    (ht : ts[j]? = some t) (hd : ds[j]? = some d) (hu : P.underlying t = some (.slice e)) (h : DataW.Trod enc P w 0 sp held t (.slice a len cap) d ps)
    (hb : 0 < P.bytesOf e) {X : Cx} {γ : Gh} {τ z n : Nat} {f : Nat → List PV} (hr : Rep X γ w (.sl τ z n f) (.slice a len cap)) : n ≤ 140737488351232 := by
  have hn : n = len := by cases hr; rfl
  subst hn
  obtain ⟨fuel, hf⟩ := h
  rcases DataW.trod_slice hu hf with ⟨h1, _⟩ | ⟨a', len', cap', elems, rest, m, _, h1, h2, _, _, _, h3, _⟩
  · have h1' : Value.slice a n cap = .slice none 0 0 := by simpa [Value.cells] using h1
    injection h1' with _ h4 _
    omega
  · have h1' : Value.slice a n cap = .slice (some a') len' cap' := by simpa [Value.cells] using h1
    injection h1' with _ h4 _
    injection h2 with h5 _
    subst h5
    have := sized_slice hz ht hd hu
    simp only [List.length_map] at this
    have h6 : n * 1 ≤ (elems.length + rest.length) * P.bytesOf e := Nat.mul_le_mul (by omega) hb
    have h7 : reachBytes = 140737488351232 := rfl
    omega
end
end Pv
end Go.Proofs.YtknidebojogodaaGreatDoor
/- A LAW's ROW, FROM ITS FUNCTION's CONTRACT: slices of slices that came in. -/
set_option linter.unusedSimpArgs false
set_option linter.unusedVariables false
namespace Go.Proofs.YtknidebojogodaaGreatDoor
namespace Pv
open Go.RowKit Go.ChangeShapes
section
variable {H : Type} {enc : TypeId × Value → H} {P : Program} {w : World} {sp : Nat → Bool} {held : Bool}
def eSl {α : Type} [Inhabited α] (k : Nat) (e : α → List PV) (m : List α) : List PV := [.sl 1 k m.length (fl e m)]
theorem sh_list2 (hgl : GlobOK w) {α : Type} [Inhabited α] (e : α → List PV) (Q : α → Prop) {shs : List Sh} (hdec : ∀ ps, ShL shs ps → ∃ x, ps = e x ∧ Q x) {p : PV} (h : ShR (.sl [.sl shs]) p) {v : Value} (hr : Rep (cx0 w) gh0 w p v) :
    ∃ G : List (List α), Rep (cx0 w) gh0 w (.sl 1 1 G.length (fl (eSl shs.length e) G)) v ∧ G.length ≤ maxLen ∧ ∀ m ∈ G, ∀ x ∈ m, Q x := by
  cases h with
  | sl _ n f hn h1 h2 =>
    have hx : ∀ i, ∃ m : List α, i < n → ∃ f', f i = [.sl 1 shs.length m.length f'] ∧ RowEq m.length f' (fl e m) ∧ ∀ x ∈ m, Q x := fun i => by
      by_cases hi : i < n
      · have hl := h1 i hi
        match hf : f i, hl with
        | [c], _ =>
          have hc := h2 i 0 (.sl shs) c hi rfl (by rw [hf]; rfl)
          cases hc with
          | sl _ n' f' hn' g1 g2 =>
            have hy : ∀ i, ∃ x, i < n' → f' i = e x ∧ Q x := fun j => by
              by_cases hj : j < n'
              · obtain ⟨x, hx⟩ := hdec (f' j) ⟨g1 j hj, fun k s p hs hp => g2 j k s p hj hs hp⟩
                exact ⟨x, fun _ => hx⟩
              · exact ⟨default, fun h => absurd h hj⟩
            refine ⟨(List.range n').map fun j => Classical.choose (hy j), fun _ => ⟨f', by simp, fun j hj => ?_, fun x hm => ?_⟩⟩
            · simp only [List.length_map, List.length_range] at hj
              rw [(Classical.choose_spec (hy j) hj).1]
              simp [fl, List.getD_eq_getElem?_getD, hj]
            · obtain ⟨j, hj, rfl⟩ := List.mem_map.1 hm
              exact (Classical.choose_spec (hy j) (List.mem_range.1 hj)).2
      · exact ⟨[], fun h => absurd h hi⟩
    let g : Nat → List α := fun i => Classical.choose (hx i)
    have hg : ∀ i, i < n → ∃ f', f i = [.sl 1 shs.length (g i).length f'] ∧ RowEq (g i).length f' (fl e (g i)) ∧ ∀ x ∈ g i, Q x := fun i => Classical.choose_spec (hx i)
    refine ⟨(List.range n).map g, ?_, by simpa using hn, fun m hm => ?_⟩
    · have hget : ∀ i, i < n → fl (eSl shs.length e) ((List.range n).map g) i = [.sl 1 shs.length (g i).length (fl e (g i))] := fun i hi => by
        simp [fl, eSl, List.getD_eq_getElem?_getD, hi]
      have hlen : ((List.range n).map g).length = n := by simp
      cases hr with
      | sl _ _ _ _ ad cap vs hcap hz hf hb hh =>
        rw [hlen]
        refine .sl 1 1 n _ ad cap vs hcap (fun i hi => by rw [hget i hi]; rfl) (fun i hi c hc => ?_) hb (fun i j c hi hc => ?_)
        · rw [hget i hi] at hc
          rw [List.mem_singleton.1 hc]; rfl
        · rw [hget i hi] at hc
          obtain ⟨f', e1, e2, _⟩ := hg i hi
          cases j with
          | zero =>
            simp only [List.getElem?_cons_zero, Option.some.injEq] at hc
            subst hc
            have := hh i 0 _ hi (by rw [e1]; rfl)
            exact this.le0 hgl ⟨Nat.le_refl _, rfl, rfl, e2⟩
          | succ j => simp at hc
    · obtain ⟨i, hi, rfl⟩ := List.mem_map.1 hm
      obtain ⟨_, _, _, h3⟩ := hg i (List.mem_range.1 hi)
      exact h3
theorem weightsAll_mem {e : TypeId} : ∀ {l : List (DataW H)} {i : Nat} {d : DataW H}, l[i]? = some d → ∀ n ∈ d.weights P e, n ∈ DataW.weightsAll P e l
  | [], i, d, h, n, hn => by simp at h
  | x :: l, 0, d, h, n, hn => by
    simp only [List.getElem?_cons_zero, Option.some.injEq] at h
    subst h
    simp only [DataW.weightsAll, List.mem_append]; exact .inl hn
  | x :: l, i + 1, d, h, n, hn => by
    simp only [DataW.weightsAll, List.mem_append]; exact .inr (weightsAll_mem (by simpa using h) n hn)
theorem sized_len2 {ts : List TypeId} {ds : List (DataW H)} (hz : (DataW.weightsEach P ts ds).all (· ≤ reachBytes) = true) {j : Nat} {t e e2 : TypeId} {d : DataW H} {ps : List MemPlace} {a : Option Addr} {len cap : Nat}
    (ht : ts[j]? = some t) (hd : ds[j]? = some d) (hu : P.underlying t = some (.slice e)) (hu2 : P.underlying e = some (.slice e2)) (hce : P.cellsOf e = 1) (h : DataW.Trod enc P w 0 sp held t (.slice a len cap) d ps)
    {X : Cx} {γ : Gh} {τ n : Nat} {F : Nat → List PV} (hr : Rep X γ w (.sl τ 1 n F) (.slice a len cap)) {i τ' z' N : Nat} {f' : Nat → List PV} (hi : i < n) (hF : F i = [.sl τ' z' N f']) : N * P.bytesOf e2 ≤ 140737488351232 := by
  have hreach : reachBytes = 140737488351232 := rfl
  cases hr with
  | sl _ _ _ _ _ _ vs hcap hz' hf hb hh =>
  obtain ⟨a', rfl, _, _, hcell⟩ := hb (by omega)
  obtain ⟨fuel, hfu⟩ := h
  rcases DataW.trod_slice hu hfu with ⟨h1, _⟩ | ⟨a'', len', cap', elems, rest, m, _, h1, h2, _, _, _, h3, h4, _⟩
  · simp [Value.cells] at h1
  · have h1' : Value.slice (some a') len cap = .slice (some a'') len' cap' := by simpa [Value.cells] using h1
    injection h1' with h5 h6 h7
    injection h5 with h5
    subst h5; subst h6
    injection h2 with h8 _
    subst h8
    have h9 := h4 i hi
    rw [List.getElem?_eq_getElem (by omega), hce, Nat.mul_one] at h9
    obtain ⟨cs', g1, g2⟩ := Option.bind_eq_some_iff.1 h9
    obtain ⟨_, k2, k3⟩ := World.cells?_some g1
    have k4 := k3 0 (by omega)
    have hv := hcell i (by omega)
    rw [add_add_, Nat.add_zero, hv] at k4
    have hcs : cs' = [vs i] := by
      match cs', k2, k4 with
      | [x], _, k4 => simp only [List.getElem?_cons_zero, Option.some.injEq] at k4; rw [k4]
    have hrep := hh i 0 _ hi (by rw [hF]; rfl)
    rw [Nat.mul_one, Nat.add_zero] at hrep
    simp only [PV.mark] at hrep
    subst hcs
    generalize vs i = u at hrep g2
    cases hrep with
    | sl _ _ _ _ ad cap2 vs2 _ _ _ _ _ =>
    rcases DataW.trod_slice hu2 g2 with ⟨q1, _⟩ | ⟨b, len2, cap3, elems2, rest2, m2, _, q1, q2, _, _, _, q3, _⟩
    · have q1' : Value.slice ad N cap2 = .slice none 0 0 := by simpa using q1
      injection q1' with _ q5 _
      subst q5; rw [Nat.zero_mul]; exact Nat.zero_le _
    · have q1' : Value.slice ad N cap2 = .slice (some b) len2 cap3 := by simpa using q1
      injection q1' with _ q5 _
      subst q5
      have hmem : (elems2.map (·.1)).length * P.bytesOf e2 ≤ ((elems2.map (·.1)).length + (rest2.map (·.1)).length) * P.bytesOf e2 := Nat.mul_le_mul_right _ (by omega)
      have he : (elems.map (·.1))[i]? = some (DataW.slice (elems2.map (·.1)) (rest2.map (·.1))) := by
        rw [List.getElem?_map, List.getElem?_eq_getElem (by omega), Option.map_some, q2]
      have hw1 : ((elems2.map (·.1)).length + (rest2.map (·.1)).length) * P.bytesOf e2 ∈ DataW.weightsEach P ts ds := by
        refine DataW.weights_mem_each ht hd _ ?_
        simp only [DataW.weights, hu, List.mem_cons, List.mem_append]
        refine .inr (.inl (weightsAll_mem he _ ?_))
        simp [DataW.weights, hu2]
      have := List.all_eq_true.1 hz _ hw1
      have h10 : ((elems2.map (·.1)).length + (rest2.map (·.1)).length) * P.bytesOf e2 ≤ reachBytes := by simpa using this
      have h11 : (elems2.map (·.1)).length = N := by rw [List.length_map]; exact q3
      rw [h11] at hmem h10
      omega
end
end Pv
end Go.Proofs.YtknidebojogodaaGreatDoor
/- LAW 13, THE ROWS: what the rows' premises on package variables give. -/
set_option linter.unusedSimpArgs false
set_option linter.unusedVariables false
namespace Go.Proofs.YtknidebojogodaaGreatDoor
open Go.ChangeShapes Go.WideShapes Go.ChangeAt Go.RowKit
theorem Tryz.own : ownKnob Tryz.prog.godebug = none := by kernel_rfl
theorem Tryz.laidOut : laidOutB Tryz.prog = true := by kernel_rfl
def lists : List (String × DataW Unit) := [("math/bits.deBruijn32tab", Rows.laid_math_bits_deBruijn32tab), ("math/bits.deBruijn64tab", Rows.laid_math_bits_deBruijn64tab), ("internal/strconv.uint64pow10", Rows.laid_internal_strconv_uint64pow10), ("unicode/utf8.acceptRanges", Rows.laid_unicode_utf8_acceptRanges), ("strconv.ErrRange", Rows.laid_strconv_ErrRange), ("strconv.ErrSyntax", Rows.laid_strconv_ErrSyntax), ("hydrocascade/rules.words", Rows.laid_hydrocascade_rules_words), ("unicode/utf8.first", Rows.laid_unicode_utf8_first)]
theorem returns_door {H : Type} {enc : TypeId × Value → H} {a : Assume} {C : Checked} {os : Os} {f : FuncId} {fn : Func} {s : ChangeSpec} {conds : List PathCond} {apart fresh handsOn again : Bool} {X : World → Array Value → Prop}
    (hX : ∀ (w w' : World) (args : Array Value), w.heap = w'.heap → X w args → X w' args)
    (own : ownKnob C.prog.godebug = none) (started : os.Started) (noInit : C.prog.inits.idxOf? f = none) (hfn : C.prog.funcs[f]? = some fn)
    (witness : ∃ (w : World) (tape : Tape) (i : Input), w.os = os ∧ (w.forCall tape i).Shaped C.prog ∧ i.vars = [] ∧ Input.okWide C.prog (w.forCall tape i) .any w.heap.size f i ∧
      ((s.pre enc C.prog fn conds apart (w.forCall tape i).memory i.args ∧ X (w.forCall tape i).memory i.args) ∧ sizedMet enc C.prog fn (OpenSpec.ofChange s) apart (w.forCall tape i).memory i.args) ∧ a.holds C.prog (lone (Frame.enter C.prog f i.args .normal) [] (w.forCall tape i)))
    (law : ∀ (W : World) (base : Nat) (args : Array Value) (ds gs : List (DataW H)) (before : List MemPlace), (∀ (j : Nat) t v, fn.params[j]? = some t → args[j]? = some v → Value.okWide C.prog W .any base t v) →
      DataW.Whole enc C.prog fn.params.toList s.vars apart W args.toList ds gs before → (DataW.weightsEach C.prog (fn.params.toList ++ s.plain.varTypes C.prog) (ds ++ gs)).all (· ≤ reachBytes) = true → X W args → W.ShapedOpen C.prog →
      Calls C.prog f args W fun e W' => ∃ v, e = .returned v ∧ s.post enc C.prog fn apart fresh handsOn again W args v W') :
    ReturnsInHanded a C os f .any (fun w args => (s.pre enc C.prog fn conds apart w args ∧ X w args) ∧ sizedMet enc C.prog fn (OpenSpec.ofChange s) apart w args) (s.post enc C.prog fn apart fresh handsOn again) := by
  refine returnsInHanded_of_calls own started noInit witness fun w tape i _ hsh _ hok hpre _ => ?_
  obtain ⟨_, _, _, g, hg, _, _, _, _, hval⟩ := hok
  cases Option.some.inj (hg.symm.trans hfn)
  obtain ⟨⟨⟨ds, gs, before, hw, _⟩, hx⟩, hz⟩ := hpre
  refine (law (w.forCall tape i) w.heap.size i.args ds gs before hval (DataW.Whole.of_heap (w' := w.forCall tape i) (by rfl) hw) (hz.weights hw) (hX _ _ _ (by rfl) hx) hsh).mono ?_
  rintro e W' ⟨v, rfl, hp⟩
  exact ChangeSpec.post_blind hp
theorem tab_of {W : World} (h : laidMetH Tryz.prog lists W) : Lib.TabIs Tryz.prog W "internal/strconv.uint64pow10" .u64 Lib.pow10Tab := by
  have h1 := (laidMetH_iff.1 h).1
  have h2 := h1.filter fun x => x.1 == "internal/strconv.uint64pow10"
  have e : ((lists.filter fun x => x.2.handleName?.isNone).filter fun x => x.1 == "internal/strconv.uint64pow10") = [("internal/strconv.uint64pow10", Lib.tabData .u64 Lib.pow10Tab)] := by kernel_rfl
  rw [e] at h2
  exact Lib.tabIs_of_head (g := 2) (t := 130) (e := 102) (n := 20) (by kernel_rfl) (by kernel_rfl) (by kernel_rfl) (by kernel_rfl) (by kernel_rfl) (by kernel_rfl) h2
theorem cells_of_strs {H : Type} {enc : TypeId × Value → H} {P : Program} {w : World} {base : Nat} {sp : Nat → Bool} {held : Bool} {fuel : Nat} {t e : TypeId} {n : Nat} {cs : List Value} {zs : List (List UInt8)} {p : List MemPlace}
    (ht : P.underlying t = some (.array n e)) (he : P.underlying e = some .string) (hce : P.cellsOf e = 1) (hct : P.cellsOf t = n)
    (h : DataW.trod enc P w base sp held fuel t cs = some (.agg (zs.map fun z => .lit (.string z)), p)) : cs = zs.map fun z => Value.string ⟨z.toArray⟩ := by
  cases fuel with
  | zero => simp [DataW.trod] at h
  | succ fuel =>
    simp only [DataW.trod, ht, hce, hct, Nat.mul_one] at h
    split at h
    · rename_i hl
      obtain ⟨xs, hm, hx⟩ := Option.map_eq_some_iff.1 h
      have hxs : xs.map (·.1) = zs.map fun z => (DataW.lit (.string z) : DataW H) := by
        have := congrArg Prod.fst hx
        simpa using this
      have hxl : xs.length = n := by simpa using Lib.mapM_length hm
      have hzl : zs.length = n := by
        have := congrArg List.length hxs
        simp at this
        omega
      apply List.ext_getElem?
      intro i
      by_cases hi : i < n
      · obtain ⟨b, hb, hf⟩ := Lib.mapM_at hm i i (by simp [hi])
        obtain ⟨z, hc, hz, _⟩ := DataW.trod_string he hf
        have h1 : cs[i]? = some (.string z) := by
          have := congrArg (·[0]?) hc
          simpa [List.getElem?_take, List.getElem?_drop] using this
        have h2 : (xs.map (·.1))[i]? = some (DataW.lit (.string z.data.toList) : DataW H) := by rw [List.getElem?_map, hb, hz]; rfl
        rw [hxs] at h2
        simp only [List.getElem?_map, Option.map_eq_some_iff, DataW.lit.injEq, Lit.string.injEq] at h2
        obtain ⟨z', hz', rfl⟩ := h2
        simp [h1, hz']
      · rw [List.getElem?_eq_none (by omega), List.getElem?_eq_none (by simp; omega)]
    · cases h
theorem words_of {W : World} (h : laidMetH Tryz.prog lists W) : W.var? Tryz.prog "hydrocascade/rules.words" = some (Pv.kindWords.map fun s => Value.string ⟨s.toArray⟩).toArray := by
  have h1 := (laidMetH_iff.1 h).1
  have h2 := h1.filter fun x => x.1 == "hydrocascade/rules.words"
  have e : ((lists.filter fun x => x.2.handleName?.isNone).filter fun x => x.1 == "hydrocascade/rules.words") = [("hydrocascade/rules.words", .agg (Pv.kindWords.map fun z => .lit (.string z)))] := by kernel_rfl
  rw [e] at h2
  obtain ⟨ps, ⟨g', t', cs, fuel, p, q, hg', ht', hvar, hd, _, _⟩, _⟩ := h2
  obtain rfl := Option.some.inj ((show Tryz.prog.globalNamed "hydrocascade/rules.words" = some 0 by kernel_rfl).symm.trans hg')
  obtain rfl := Option.some.inj ((show (Tryz.prog.globals[0]?).map (·.type) = some 63 by kernel_rfl).symm.trans ht')
  rw [hvar, ← cells_of_strs (n := 5) (e := 9) (by kernel_rfl) (by kernel_rfl) (by kernel_rfl) (by kernel_rfl) hd]
theorem glob_of {W : World} (h : laidMetH Tryz.prog lists W) (hs : W.ShapedOpen Tryz.prog) : Pv.GlobOK W := fun b p hb => by
  match b, hb with
  | 0, hb =>
    injection hb with hb; subst hb
    have ht := words_of h
    unfold World.var? at ht
    rw [show Tryz.prog.globalNamed "hydrocascade/rules.words" = some 0 from by kernel_rfl] at ht
    simp only [Option.bind_some] at ht
    split at ht
    · rename_i cs T fz hc
      simp only [Option.some.injEq] at ht
      subst ht
      exact ⟨_, hc, T, fz, rfl⟩
    · cases ht
  | 1, hb =>
    injection hb with hb; subst hb
    obtain ⟨m, hm⟩ := cell_of_shapedOpen_int (P := Tryz.prog) (w := W) (g := 1) (t := 3) (zero := #[.int .i64 0]) (k := .i64) hs (of_decide_eq_true (by kernel_rfl)) (by kernel_rfl) rfl (by kernel_rfl) (by kernel_rfl) (by kernel_rfl)
    unfold World.cell? at hm
    split at hm
    · rename_i cs T fz hc
      exact ⟨_, hc, cs, T, fz, m, rfl, by simpa using hm⟩
    · cases hm
  | 2, hb =>
    injection hb with hb; subst hb
    have ht := tab_of h
    unfold Lib.TabIs World.var? at ht
    rw [show Tryz.prog.globalNamed "internal/strconv.uint64pow10" = some 2 from by kernel_rfl] at ht
    simp only [Option.bind_some] at ht
    split at ht
    · rename_i cs T fz hc
      simp only [Option.some.injEq] at ht
      subst ht
      exact ⟨_, hc, T, fz, rfl⟩
    · cases ht
  | b + 3, hb => cases hb
end Go.Proofs.YtknidebojogodaaGreatDoor
set_option linter.unusedSimpArgs false
set_option linter.unusedVariables false
namespace Go.Proofs.YtknidebojogodaaGreatDoor
open Go.ChangeShapes Go.WideShapes Go.ChangeAt Go.RowKit
namespace Pv
theorem dec_int : ∀ ps, ShL [.int .i64] ps → ∃ x : Int, ps = eInt x ∧ inR .i64 x := fun ps h => by
  obtain ⟨p, qs, rfl, h1, h⟩ := shl_cons h
  cases shl_nil h
  obtain ⟨a, rfl, ha⟩ := sh_int h1
  exact ⟨a, rfl, ha⟩
theorem of_wfk {k : IntKind} {n : Int} (h : (Lit.int k n).wf = true) : inR k n := by
  simp only [Lit.wf, Bool.and_eq_true, decide_eq_true_eq] at h; exact h
theorem u16_of {n : Int} (h : inR .u16 n) : 0 ≤ n ∧ n ≤ 65535 := h
theorem u8_of {n : Int} (h : inR .u8 n) : 0 ≤ n ∧ n ≤ 255 := h
theorem i64_of {n : Int} (h : inR .i64 n) : -9223372036854775808 ≤ n ∧ n ≤ 9223372036854775807 := h
end Pv
set_option maxRecDepth 100000 in
theorem liftedRulesLines (os : Os) (started : os.Started) (H : Type) (enc : TypeId × Value → H) :
    ReturnsInHanded {} Tryz.checked os 5 .any (fun w args => (Rows.rulesLinesSpec.pre enc Tryz.prog Tryz.f5 Rows.rulesLinesRow.domain false w args ∧ laidMetH Tryz.prog lists w) ∧ sizedMet enc Tryz.prog Tryz.f5 (OpenSpec.ofChange Rows.rulesLinesSpec) false w args) (Rows.rulesLinesSpec.post enc Tryz.prog Tryz.f5 false true false false) := by
  refine returns_door (C := Tryz.checked) (X := fun w _ => laidMetH Tryz.prog lists w) (fun _ _ _ hh h => h.of_heap hh) Tryz.own started (by kernel_rfl) Tryz.func5
    (ChangeSpec.witness_shaped (enc := enc) (C := Tryz.checked) (os := os) (X := fun w _ => laidMetH Tryz.prog lists w) false (World.laidAll Tryz.prog os lists) #[.slice none 0 0, .slice none 0 0, .int .i64 0] 8 (World.laidAll_os _ _ _)
      (World.shaped_of_ZipB (by kernel_rfl) (by kernel_rfl)) (by kernel_rfl) (by kernel_rfl) (by kernel_rfl)
      (by rw [MakeChecks.laidMetH_plain _ _ _ (by kernel_rfl)]; exact laidMet_laidAll _ (by kernel_rfl) (by kernel_rfl))) ?_
  intro W base args ds gs before hval0 hW hsz0 hL hS
  have hval : ∀ (j : Nat) t v, Tryz.f5.params[j]? = some t → args[j]? = some v → Value.okWide Tryz.prog W .any base t v := hval0
  have hW' := hW
  obtain ⟨p, q, hA0, hV, rfl, hfz, hnd⟩ := hW
  have hA : DataW.TrodAll enc Tryz.prog W 0 (fun _ => true) true Tryz.f5.params.toList args.toList ds p := hA0
  rw [Tryz.params5] at hA hval
  have hgl : Pv.GlobOK W := glob_of hL hS
  have hsz : (DataW.weightsEach Tryz.prog (Tryz.f5.params.toList ++ (Rows.rulesLinesSpec).plain.varTypes Tryz.prog) (ds ++ gs)).all (· ≤ reachBytes) = true := hsz0
  rw [Tryz.params5] at hsz
  obtain ⟨v0, vs0, d0, ds0, p0, q0, hargs, rfl, rfl, h0, r0⟩ := trodAll_cons hA
  obtain ⟨v1, vs1, d1, ds1, p1, q1, rfl, rfl, rfl, h1, r1⟩ := trodAll_cons r0
  obtain ⟨v2, vs2, d2, ds2, p2, q2, rfl, rfl, rfl, h2, r2⟩ := trodAll_cons r1
  obtain ⟨rfl, rfl, rfl⟩ := trodAll_nil r2
  obtain rfl : args = #[v0, v1, v2] := by cases args; simp_all
  obtain ⟨rfl, rfl⟩ := trodVars_none hV
  have k0 := h0
  have lt0 : ∀ x ∈ p0, x.block < W.heap.size := by obtain ⟨m, hm⟩ := k0; exact DataW.trod_lt m _ _ _ hm
  obtain ⟨a0, len0, cap0, rfl⟩ := okWide_slice Tryz.underlying23 (hval 0 23 v0 rfl rfl)
  obtain ⟨_, s0, g0⟩ := Pv.arg_one (m := 9) (s := .sl [.int .i64]) (by kernel_rfl) rfl k0
  obtain ⟨l0, e0, _, i0⟩ := Pv.sh_list hgl Pv.eInt (Pv.inR .i64) Pv.dec_int s0 g0
  have k1 := h1
  have lt1 : ∀ x ∈ p1, x.block < W.heap.size := by obtain ⟨m, hm⟩ := k1; exact DataW.trod_lt m _ _ _ hm
  obtain ⟨a1, len1, cap1, rfl⟩ := okWide_slice Tryz.underlying23 (hval 1 23 v1 rfl rfl)
  obtain ⟨_, s1, g1⟩ := Pv.arg_one (m := 9) (s := .sl [.int .i64]) (by kernel_rfl) rfl k1
  obtain ⟨l1, e1, _, i1⟩ := Pv.sh_list hgl Pv.eInt (Pv.inR .i64) Pv.dec_int s1 g1
  obtain ⟨l2, rfl, rfl, rfl, w2⟩ := open_int Tryz.underlying3 (hval 2 3 v2 rfl rfl) h2
  have i2 := Pv.of_wfk w2
  have e2 : Pv.Rep (Pv.cx0 W) Pv.gh0 W (.int .i64 l2) (.int .i64 l2) := .int _ _
  clear hA0 hval0
  refine (Pv.law_calls hgl (Pv.call5 l0 l1 l2 (Pv.i64_of i2)) (Pv.RepL.cons_ e0 (Pv.RepL.cons_ e1 (Pv.RepL.cons_ e2 Pv.RepL.nil_)))).mono fun e W' ⟨he, bel⟩ => ?_
  subst he
  exact ⟨_, rfl, _, _, _, [], _, [], hW', trodAll_mk1 (shut_bool Tryz.underlying4 _), (trodAll_cons_mk (Below.trod Tryz.laidOut (by kernel_rfl) (of_decide_eq_true (by kernel_rfl)) k0 bel lt0) (trodAll_cons_mk (Below.trod Tryz.laidOut (by kernel_rfl) (of_decide_eq_true (by kernel_rfl)) k1 bel lt1) (trodAll_cons_mk (shut_int Tryz.underlying3 w2) trodAll_mk0))), rfl, bel.frame _, fun h => by cases h⟩
theorem RulesLines_row : Rows.RulesLinesSaid :=
  OpenClaim.holds_of_wide 5 Tryz.f5 rfl rfl rfl rfl rfl rfl rfl ⟨rfl, rfl, rfl, rfl, rfl⟩ rfl rfl rfl rfl rfl (by kernel_rfl) Tryz.func5 (by kernel_rfl)
    (of_decide_eq_true (by kernel_rfl)) (by unfold Func.isWrapper; first | (rw [if_pos (by decide +kernel)]; kernel_rfl) | (rw [if_neg (by decide +kernel)]; exact ⟨rfl, rfl⟩))
    (fun os started H enc _ => liftedRulesLines os started H enc)
theorem RulesLines_holds : Rows.RulesLinesCardSaid :=
  Claim7.holds_tied_plain_at .later [] [.data, .data, .data, .data, .sentinel, .sentinel, .data, .pinned] true (true, "975289f57bc6a36a144556ad27abc8b180ac5fac2c9b1601fd327770087ffbd2") true RulesLines_row (fun _ h => by cases h) (by kernel_rfl) (fun _ h => by cases h) rulesLines_row_tie rfl ⟨rfl, rfl⟩ (by kernel_rfl) rfl
    (fun f fn hf hfn => by
      obtain rfl : f = 5 := Option.some.inj ((show Tryz.prog.funcNamed "hydrocascade/hydrocascadelaw13.RulesLines" = some 5 by kernel_rfl).symm.trans hf) |>.symm
      obtain rfl : fn = Tryz.f5 := (Option.some.inj (Tryz.func5.symm.trans hfn)).symm
      exact ⟨by kernel_rfl, fun j t ht => by
        rw [Tryz.params5] at ht
        have hm : t ∈ [23, 23, 3] := by simpa using Array.mem_of_getElem? ht
        have hall : ([23, 23, 3].all fun u => !Tryz.prog.wantsStandIn u) = true := by kernel_rfl
        exact (show Tryz.prog.wantsStandIn t = false by simpa using List.all_eq_true.1 hall t hm)⟩)
    (by kernel_rfl)
end Go.Proofs.YtknidebojogodaaGreatDoor
