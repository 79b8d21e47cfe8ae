/- A LAW's ROW, FROM ITS FUNCTION's CONTRACT: slices of slices that came in. -/
import Derived.Test.YtknidebojogodaaDoorZbg
import Derived.Test.YtknidebojogodaaDoorZbf
import Derived.ProofKit
import Derived.ChangeOld
import Derived.DataElems
import Derived.Below
import Derived.SizedLaws
/- LAW 13, THE WALKS: conditions as text. -/
set_option linter.unusedSimpArgs false
set_option linter.unusedVariables false
namespace Go.Proofs.YtknidebojogodaaDoor
namespace Pv
def c19L1 : C := (.seq (.reg [⟨(some 12), 192, none, .bi false .lss (.t 11) (.t 10)⟩])
  (.seq (.cond (.t 12) .skip (.exit 0))
  (.seq (.block 1 (.seq (.reg [⟨(some 13), 208, none, .ia 1 (.t 9) (.t 11)⟩,
    ⟨(some 14), 224, none, .ld 1 false (.t 13)⟩,
    ⟨(some 6), 96, none, .mv (.t 14)⟩])
  (.reg [⟨(some 15), 240, none, .mv (.t 6)⟩,
    ⟨(some 16), 256, none, .call (.c (.fn (.func 21) [] [])) [(.t 15)]⟩,
    ⟨(some 17), 272, none, .bi false .add (.c (.str [32])) (.t 16)⟩,
    ⟨(some 18), 288, none, .call (.c (.fn (.func 20) [] [])) [(.t 2), (.t 17)]⟩])))
  (.reg [⟨(some 19), 304, none, .bi false .add (.t 11) (.c (.int .i64 1))⟩,
    ⟨(some 11), 176, none, .mv (.t 19)⟩]))))
def c19 : C := (.seq (.reg [⟨(some 7), 112, none, .mv (.t 0)⟩,
    ⟨(some 8), 128, none, .call (.c (.fn (.func 20) [] [])) [(.t 2), (.t 7)]⟩])
  (.seq (.reg [⟨(some 9), 144, none, .mv (.t 1)⟩,
    ⟨(some 10), 160, none, .len (.t 9)⟩,
    ⟨(some 11), 176, none, .mv (.c (.int .i64 0))⟩])
  (.block 0 (.loop c19L1))))
theorem fits19 : fits Tryd.prog false Tryd.f19 3 20 [] = some c19.er := by kernel_rfl
def c8L1 : C := (.seq (.reg [⟨(some 18), 288, none, .bi false .lss (.t 17) (.t 16)⟩])
  (.seq (.cond (.t 18) .skip (.exit 0))
  (.seq (.block 1 (.seq (.reg [⟨(some 19), 304, none, .ia 7 (.t 15) (.t 17)⟩,
    ⟨(some 20), 320, none, .ld 7 true (.t 19)⟩,
    ⟨(some 8), 128, none, .al [(.int .i64 0), (.int .i64 0), (.int .i64 0), (.int .i64 0), (.int .i64 0), (.int .i64 0), (.int .i64 0)]⟩,
    ⟨none, 0, none, .st 7 (.t 8) (.t 20)⟩])
  (.seq (.reg [⟨(some 21), 336, none, .mv (.t 6)⟩,
    ⟨(some 22), 352, none, .fa 0 (.t 8)⟩,
    ⟨(some 23), 368, none, .ld 1 false (.t 22)⟩,
    ⟨(some 24), 384, none, .bs 3 1 [(.t 23)]⟩,
    ⟨(some 25), 400, none, .call (.t 21) [(.c (.str [114, 97, 110, 107])), (.t 24)]⟩])
  (.cut (.seq (.drw [⟨(some 26), 416, none, .mv (.t 6)⟩,
    ⟨(some 27), 432, none, .fa 1 (.t 8)⟩,
    ⟨(some 28), 448, none, .ld 1 false (.t 27)⟩,
    ⟨(some 29), 464, none, .iaa 5 1 (.c (.rp 1 [(.str []), (.str [108, 101, 97, 115, 116]), (.str [109, 111, 115, 116]), (.str [117, 112]), (.str [100, 111, 119, 110])])) (.t 28)⟩,
    ⟨(some 30), 480, none, .ld 1 false (.t 29)⟩,
    ⟨(some 31), 496, none, .bi false .add (.c (.str [32])) (.t 30)⟩,
    ⟨(some 32), 512, none, .fa 2 (.t 8)⟩,
    ⟨(some 33), 528, none, .ld 1 false (.t 32)⟩,
    ⟨(some 34), 544, none, .bs 3 1 [(.t 33)]⟩,
    ⟨(some 35), 560, none, .call (.t 26) [(.t 31), (.t 34)]⟩]
    [(0, 1, 26), (0, 2, 26), (0, 3, 26), (0, 4, 26), (0, 5, 26), (0, 6, 26), (0, 7, 26), (0, 8, 26), (1, 6, 27), (1, 7, 27), (1, 8, 27), (2, 6, 28), (2, 7, 28), (2, 8, 28), (3, 6, 29), (3, 7, 29), (3, 8, 29), (4, 6, 30), (4, 7, 30), (4, 8, 30), (5, 6, 31), (5, 7, 31), (5, 8, 31)])
  (.cut (.seq (.seq (.reg [⟨(some 36), 576, none, .fa 3 (.t 8)⟩,
    ⟨(some 37), 592, none, .ld 2 true (.t 36)⟩,
    ⟨(some 38), 608, none, .bd [(.int .i64 0), (.int .i64 0)] [(1, 1, (.c (.int .i64 364)))]⟩,
    ⟨(some 39), 624, none, .eqa true [0, 0] (.t 37) (.t 38)⟩])
  (.cond (.t 39) (.reg [⟨(some 40), 640, none, .mv (.t 6)⟩,
    ⟨(some 41), 656, none, .fa 3 (.t 8)⟩,
    ⟨(some 42), 672, none, .fa 0 (.t 41)⟩,
    ⟨(some 43), 688, none, .ld 1 false (.t 42)⟩,
    ⟨(some 44), 704, none, .fa 3 (.t 8)⟩,
    ⟨(some 45), 720, none, .fa 1 (.t 44)⟩,
    ⟨(some 46), 736, none, .ld 1 false (.t 45)⟩,
    ⟨(some 47), 752, none, .bs 3 1 [(.t 43), (.t 46)]⟩,
    ⟨(some 48), 768, none, .call (.t 40) [(.c (.str [32, 100, 97, 121, 115])), (.t 47)]⟩]) .skip))
  (.cut (.seq (.seq (.reg [⟨(some 49), 784, none, .fa 5 (.t 8)⟩,
    ⟨(some 50), 800, none, .ld 1 false (.t 49)⟩,
    ⟨(some 51), 816, none, .bi false .neq (.t 50) (.c (.int .i64 0))⟩])
  (.cond (.t 51) (.reg [⟨(some 52), 832, none, .mv (.t 6)⟩,
    ⟨(some 53), 848, none, .fa 5 (.t 8)⟩,
    ⟨(some 54), 864, none, .ld 1 false (.t 53)⟩,
    ⟨(some 55), 880, none, .bs 3 1 [(.t 54)]⟩,
    ⟨(some 56), 896, none, .call (.t 52) [(.c (.str [32, 97, 98, 111, 118, 101])), (.t 55)]⟩]) .skip))
  (.cut (.seq (.seq (.reg [⟨(some 57), 912, none, .fa 6 (.t 8)⟩,
    ⟨(some 58), 928, none, .ld 1 false (.t 57)⟩,
    ⟨(some 59), 944, none, .bi false .neq (.t 58) (.c (.int .i64 16777216))⟩])
  (.cond (.t 59) (.reg [⟨(some 60), 960, none, .mv (.t 6)⟩,
    ⟨(some 61), 976, none, .fa 6 (.t 8)⟩,
    ⟨(some 62), 992, none, .ld 1 false (.t 61)⟩,
    ⟨(some 63), 1008, none, .bs 3 1 [(.t 62)]⟩,
    ⟨(some 64), 1024, none, .call (.t 60) [(.c (.str [32, 98, 101, 108, 111, 119])), (.t 63)]⟩]) .skip))
  (.reg [⟨(some 65), 1040, none, .call (.c (.fn (.func 22) [] [])) [(.t 5), (.c (.int .u8 10))]⟩]))))))))))))
  (.reg [⟨(some 66), 1056, none, .bi false .add (.t 17) (.c (.int .i64 1))⟩,
    ⟨(some 17), 272, none, .mv (.t 66)⟩]))))
def c8 : C := (.seq (.reg [⟨(some 2), 32, none, .mv (.c (.str []))⟩,
    ⟨(some 3), 48, none, .mv (.c (.int .i64 0))⟩])
  (.seq (.seq (.reg [⟨(some 9), 144, none, .mv (.t 0)⟩,
    ⟨(some 10), 160, none, .call (.c (.fn (.func 18) [] [])) [(.t 9)]⟩,
    ⟨(some 4), 64, none, .mv (.t 10)⟩])
  (.seq (.reg [⟨(some 11), 176, none, .mv (.t 4)⟩,
    ⟨(some 12), 192, none, .bi false .neq (.t 11) (.c (.int .i64 0))⟩])
  (.cond (.t 12) (.seq (.reg [⟨(some 13), 208, none, .mv (.t 4)⟩,
    ⟨(some 2), 32, none, .mv (.c (.str []))⟩,
    ⟨(some 3), 48, none, .mv (.t 13)⟩])
  .ret) .skip)))
  (.seq (.reg [⟨(some 5), 80, none, .alb 54 5⟩])
  (.seq (.reg [⟨(some 14), 224, none, .mf (.func 19) [] [(.t 5)]⟩,
    ⟨(some 6), 96, none, .mv (.t 14)⟩])
  (.seq (.seq (.reg [⟨(some 15), 240, none, .mv (.t 0)⟩,
    ⟨(some 16), 256, none, .len (.t 15)⟩,
    ⟨(some 17), 272, none, .mv (.c (.int .i64 0))⟩])
  (.block 0 (.loop c8L1)))
  (.seq (.reg [⟨(some 67), 1072, none, .call (.c (.fn (.func 23) [] [])) [(.t 5)]⟩,
    ⟨(some 2), 32, none, .mv (.t 67)⟩,
    ⟨(some 3), 48, none, .mv (.c (.int .i64 0))⟩])
  .ret))))))
theorem fits8 : fits Tryd.prog false Tryd.f8 1 68 [(2, none), (3, none)] = some c8.er := by kernel_rfl
def putT (w : List UInt8) (l : List Int) : List UInt8 := w ++ l.flatMap fun n => 32 :: Lib.itoa n
theorem putT_take {w : List UInt8} {l : List Int} {i : Nat} (h : i < l.length) : putT w (l.take (i + 1)) = putT w (l.take i) ++ (32 :: Lib.itoa (l.getD i default)) := by
  have : l.take (i + 1) = l.take i ++ [l.getD i default] := by rw [List.take_add_one, getD_some h]; rfl
  rw [this]; simp [putT]
def r64 (n : Int) : Prop := -9223372036854775808 ≤ n ∧ n ≤ 9223372036854775807
theorem putT_len (w : List UInt8) : ∀ (l : List Int), (∀ n ∈ l, r64 n) → (putT w l).length ≤ w.length + 22 * l.length
  | [], _ => by simp [putT]
  | n :: l, h => by
    have ih := putT_len w l fun m hm => h m (List.mem_cons_of_mem _ hm)
    have h1 := h n (List.mem_cons_self ..)
    have h2 := Lib.itoa_length_le n h1.1 h1.2
    simp only [putT, List.flatMap_cons, List.length_append, List.length_cons] at ih ⊢
    omega
set_option maxRecDepth 100000 in
theorem call19 (w : List UInt8) (l : List Int) (s : List UInt8) (hs : s.length ≤ 1000000000) (hw : w.length ≤ 100) (hl : l.length ≤ 4) (hr : ∀ n ∈ l, r64 n) :
    PureCall Tryd.prog 19 [.str w, .sl 2 1 l.length (fl eInt l), .pt 0 0 0] [.bld 54 5 s] ⟨.tup [], [.bld 54 5 (s ++ putT w l)], []⟩ := by
  refine pure_call mix Tryd.func19 fits19 rfl ?_
  conv => whnf
  refine ⟨_, fun _ => call20 s w (by omega), ?_⟩
  conv => whnf
  refine ⟨?_, ?_⟩
  · exact g0
  refine LSem.loop (n := 20) mix (α := Nat) (fun i => i ≤ l.length)
    (fun i => [(2, .pt 0 0 0), (9, .sl 2 1 l.length (fl eInt l)), (10, .int .i64 l.length), (11, .int .i64 i)])
    (fun i => [(0, .bld 54 5 (s ++ putT w (l.take i)))]) (fun i => l.length - i) 0 ?_ ?_ ?_
  · exact Nat.zero_le _
  · have q : s ++ w = s ++ putT w (l.take 0) := by simp [putT]
    refine ⟨rfl, rfl, ?_, ?_⟩ <;> exact ent
  · intro i hi
    have hj : ((i : Int)).toNat = i := by omega
    conv => whnf
    refine ⟨trivial, fun hc => ?_, fun hc => ?_⟩
    · replace hc := of_decide_eq_true hc
      have hlt : i < l.length := by
        have h : (i : Int) < l.length := hc
        omega
      have hn := hr _ (getD_mem hlt)
      have hT := putT_len w (l.take i) fun n hm => hr n (List.mem_of_mem_take hm)
      have hTl : (l.take i).length ≤ l.length := by rw [List.length_take]; omega
      have hst := putT_take (w := w) hlt
      have hx := Lib.itoa_length_le (l.getD i default) hn.1 hn.2
      conv => whnf
      rw [hj]
      generalize l.getD i default = n at hn hst hx ⊢
      refine ⟨_, fun _ => call21 n hn.1 hn.2, ?_⟩
      conv => whnf
      refine ⟨_, fun _ => call20 (s ++ putT w (l.take i)) ([32] ++ Lib.itoa n) (by simp only [List.length_append, List.length_cons, List.length_nil]; omega), ?_⟩
      have q : (s ++ putT w (l.take i)) ++ ([32] ++ Lib.itoa n) = s ++ putT w (l.take (i + 1)) := by rw [hst, List.append_assoc]; rfl
      rw [q]
      conv => whnf
      refine ⟨?_, i + 1, hlt, by omega, rfl, rfl, ?_, ?_⟩
      · exact g1
      · exact ent
      · exact ent
    · replace hc := of_decide_eq_false hc
      have hk : i = l.length := by
        have h : ¬ (i : Int) < l.length := hc
        omega
      subst hk
      rw [List.take_length]
      conv => whnf
      exact retB
theorem call19a (w : List UInt8) (n : Int) (s : List UInt8) (hs : s.length ≤ 1000000000) (hw : w.length ≤ 100) (hr : r64 n) :
    PureCall Tryd.prog 19 [.str w, .sl 2 1 [[PV.int .i64 n]].length (fun i => [[PV.int .i64 n]].getD i []), .pt 0 0 0] [.bld 54 5 s] ⟨.tup [], [.bld 54 5 (s ++ putT w [n])], []⟩ :=
  PureCall.arg_le (call19 w [n] s hs hw (by simp) (by simpa using hr)) rfl ⟨ent, ⟨Nat.le_refl _, rfl, rfl, fun i hi => by match i, hi with | 0, _ => rfl⟩, ent, trivial⟩
theorem call19b (w : List UInt8) (n m : Int) (s : List UInt8) (hs : s.length ≤ 1000000000) (hw : w.length ≤ 100) (hr : r64 n ∧ r64 m) :
    PureCall Tryd.prog 19 [.str w, .sl 2 1 [[PV.int .i64 n], [PV.int .i64 m]].length (fun i => [[PV.int .i64 n], [PV.int .i64 m]].getD i []), .pt 0 0 0] [.bld 54 5 s] ⟨.tup [], [.bld 54 5 (s ++ putT w [n, m])], []⟩ :=
  PureCall.arg_le (call19 w [n, m] s hs hw (by simp) (by simpa using hr)) rfl ⟨ent, ⟨Nat.le_refl _, rfl, rfl, fun i hi => by match i, hi with | 0, _ => rfl | 1, _ => rfl⟩, ent, trivial⟩
def daysT (c : Cd) : List UInt8 := if c.f = 0 ∧ c.u = 364 then [] else putT (32 :: wDays) [c.f, c.u]
def aboveT (c : Cd) : List UInt8 := if c.a = 0 then [] else putT (32 :: wAbove) [c.a]
def belowT (c : Cd) : List UInt8 := if c.b = 16777216 then [] else putT (32 :: wBelow) [c.b]
def headT (c : Cd) : List UInt8 := putT wRank [c.r] ++ putT (32 :: kindW c.k) [c.v]
def lineT (c : Cd) : List UInt8 := headT c ++ (daysT c ++ (aboveT c ++ (belowT c ++ [10])))
def printC (l : List Cd) : List UInt8 := l.flatMap lineT
theorem allC_ok : ∀ {l : List Cd}, allC l = 0 → ∀ c ∈ l, oneC c = 0
  | [], _, c, h => by simp at h
  | x :: l, h, c, hc => by
    unfold allC at h
    split at h
    · rename_i h2; exact absurd h h2
    · rename_i h2
      rcases List.mem_cons.1 hc with rfl | hc
      · exact Classical.not_not.1 h2
      · exact allC_ok h c hc
theorem limC_ok {l : List Cd} (h : limC l = 0) : l.length ≤ 200 ∧ ∀ c ∈ l, oneC c = 0 := by
  unfold limC at h
  split at h
  · cases h
  · exact ⟨by omega, allC_ok h⟩
theorem kindW_len (k : Int) : (kindW k).length ≤ 5 := by
  unfold kindW
  repeat' split
  all_goals decide
theorem parts_len {c : Cd} (h : oneC c = 0) : (headT c).length ≤ 60 ∧ (daysT c).length ≤ 60 ∧ (aboveT c).length ≤ 60 ∧ (belowT c).length ≤ 60 := by
  obtain ⟨h1, h2, h3⟩ := oneC_ok h
  unfold badC at h3
  have hk := kindW_len c.k
  have e1 := putT_len wRank [c.r] (by simp [r64]; omega)
  have e2 := putT_len (32 :: kindW c.k) [c.v] (by simp [r64]; omega)
  have e3 := putT_len (32 :: wDays) [c.f, c.u] (by simp [r64]; omega)
  have e4 := putT_len (32 :: wAbove) [c.a] (by simp [r64]; omega)
  have e5 := putT_len (32 :: wBelow) [c.b] (by simp [r64]; omega)
  have l1 : wRank.length = 4 := rfl
  have l2 : wDays.length = 4 := rfl
  have l3 : wAbove.length = 5 := rfl
  have l4 : wBelow.length = 5 := rfl
  simp only [List.length_cons, List.length_nil] at e1 e2 e3 e4 e5
  refine ⟨?_, ?_, ?_, ?_⟩
  · unfold headT; rw [List.length_append]; omega
  · unfold daysT; split
    · exact Nat.zero_le _
    · omega
  · unfold aboveT; split
    · exact Nat.zero_le _
    · omega
  · unfold belowT; split
    · exact Nat.zero_le _
    · omega
theorem printC_take {l : List Cd} {i : Nat} (h : i < l.length) : printC (l.take (i + 1)) = printC (l.take i) ++ lineT (l.getD i default) := by
  have : l.take (i + 1) = l.take i ++ [l.getD i default] := by rw [List.take_add_one, getD_some h]; rfl
  rw [this]; simp [printC]
theorem lineT_len {c : Cd} (h : oneC c = 0) : (lineT c).length ≤ 250 := by
  obtain ⟨h1, h2, h3, h4⟩ := parts_len h
  simp only [lineT, List.length_append, List.length_cons, List.length_nil]
  omega
theorem printC_len : ∀ {l : List Cd}, (∀ c ∈ l, oneC c = 0) → (printC l).length ≤ 250 * l.length
  | [], _ => Nat.le_refl _
  | c :: l, h => by
    have ih := printC_len (l := l) fun x hx => h x (List.mem_cons_of_mem _ hx)
    have h1 := lineT_len (h c (List.mem_cons_self ..))
    simp only [printC, List.flatMap_cons, List.length_append, List.length_cons] at ih ⊢
    omega
theorem call8_bad (τ : Nat) (l : List Cd) (hb : limC l ≠ 0) : PureCall Tryd.prog 8 [.sl τ 7 l.length (fl eCd l)] [] ⟨.tup [.str [], .int .i64 (limC l)], [], []⟩ := by
  refine pure_call mix Tryd.func8 fits8 rfl ?_
  conv => whnf
  refine ⟨_, fun _ => call18 _ l, ?_⟩
  generalize limC l = e at hb ⊢
  conv => whnf
  refine ⟨?_, fun hc => ?_, fun hc => ?_⟩
  · exact g0
  · conv => whnf
    exact ret
  · exact absurd (by simpa using hc) hb
set_option maxRecDepth 100000 in
set_option maxHeartbeats 8000000 in
theorem call8 (τ : Nat) (l : List Cd) (hb : limC l = 0) : PureCall Tryd.prog 8 [.sl τ 7 l.length (fl eCd l)] [] ⟨.tup [.str (printC l), .int .i64 0], [], []⟩ := by
  obtain ⟨hl2, hV⟩ := limC_ok hb
  refine pure_call mix Tryd.func8 fits8 rfl ?_
  conv => whnf
  refine ⟨_, fun _ => call18 _ l, ?_⟩
  rw [hb]
  conv => whnf
  refine ⟨?_, fun hc => Bool.noConfusion (show false = true from hc), fun hc => ?_⟩
  · exact g0
  conv => whnf
  refine ⟨trivial, ?_⟩
  refine LSem.loop (n := 68) mix (α := Nat) (fun i => i ≤ l.length)
    (fun i => [(5, .pt 80 0 0), (6, .fn (.func 19) [] [.pt 80 0 0]), (15, .sl τ 7 l.length (fl eCd l)), (16, .int .i64 l.length), (17, .int .i64 i)])
    (fun i => [(80, .bld 54 5 (printC (l.take i)))]) (fun i => l.length - i) 0 ?_ ?_ ?_
  · exact Nat.zero_le _
  · refine ⟨rfl, rfl, ?_, ?_⟩ <;> exact ent
  · intro i hi
    have hj : ((i : Int)).toNat = i := by omega
    conv => whnf
    refine ⟨trivial, fun hc => ?_, fun hc => ?_⟩
    · replace hc := of_decide_eq_true hc
      have hlt : i < l.length := by
        have h : (i : Int) < l.length := hc
        omega
      have hpl := printC_len (l := l.take i) fun c hc => hV c (List.mem_of_mem_take hc)
      have hpl2 : (l.take i).length ≤ 200 := by rw [List.length_take]; omega
      have hpt := printC_take hlt
      have hone := hV _ (getD_mem hlt)
      have hpn := parts_len hone
      conv => whnf
      rw [hj]
      generalize l.getD i default = c at hpt hone hpn ⊢
      generalize printC (l.take i) = T at hpl hpt ⊢
      obtain ⟨o1, o2, o3⟩ := oneC_ok hone
      unfold badC at o3
      obtain ⟨p1, p2, p3, p4⟩ := hpn
      refine ⟨_, fun _ => call19a wRank c.r T (by omega) (by decide) (by unfold r64; omega), ?_⟩
      have hT1 : (T ++ putT wRank [c.r]).length ≤ 60000 := by
        have := putT_len wRank [c.r] (by simp [r64]; omega)
        simp only [List.length_append, List.length_cons, List.length_nil] at this ⊢
        have l1 : wRank.length = 4 := rfl
        omega
      conv => whnf
      refine ⟨?_, ?_⟩
      · exact g0
      refine LSem.meet (n := 68) mix (α := Unit) (fun _ => True)
        (fun _ => [(5, .pt 80 0 0), (6, .fn (.func 19) [] [.pt 80 0 0]), (8, .pt 128 0 0), (15, .sl τ 7 l.length (fl eCd l)), (16, .int .i64 l.length), (17, .int .i64 i)])
        (fun _ => [(80, .bld 54 5 (T ++ headT c)), (128, .box (eCd c))]) ?_ ?_
      · have hk : c.k = 1 ∨ c.k = 2 ∨ c.k = 3 ∨ c.k = 4 := by omega
        have key : ∀ K : List UInt8, kindW c.k = K → T ++ putT wRank [c.r] ++ putT ([32] ++ K) [c.v] = T ++ headT c := fun K hK => by rw [← hK, List.append_assoc]; rfl
        have hv : r64 c.v := by unfold r64; omega
        obtain ⟨r, k, v, f, u, a, b⟩ := c
        dsimp only at hk hv hT1
        rcases hk with rfl | rfl | rfl | rfl
        · have q := key wLeast rfl
          conv => whnf
          refine ⟨_, fun _ => call19a ([32] ++ wLeast) v (T ++ putT wRank [r]) (by omega) (by decide) hv, ?_⟩
          rw [q]
          conv => whnf
          refine ⟨rfl, ?_⟩
          conv => whnf
          refine ⟨?_, (), trivial, rfl, rfl, ?_, ?_⟩
          · exact g0
          · exact ent
          · exact ent
        · have q := key wMost rfl
          conv => whnf
          refine ⟨_, fun _ => call19a ([32] ++ wMost) v (T ++ putT wRank [r]) (by omega) (by decide) hv, ?_⟩
          rw [q]
          conv => whnf
          refine ⟨rfl, ?_⟩
          conv => whnf
          refine ⟨?_, (), trivial, rfl, rfl, ?_, ?_⟩
          · exact g0
          · exact ent
          · exact ent
        · have q := key wUp rfl
          conv => whnf
          refine ⟨_, fun _ => call19a ([32] ++ wUp) v (T ++ putT wRank [r]) (by omega) (by decide) hv, ?_⟩
          rw [q]
          conv => whnf
          refine ⟨rfl, ?_⟩
          conv => whnf
          refine ⟨?_, (), trivial, rfl, rfl, ?_, ?_⟩
          · exact g0
          · exact ent
          · exact ent
        · have q := key wDown rfl
          conv => whnf
          refine ⟨_, fun _ => call19a ([32] ++ wDown) v (T ++ putT wRank [r]) (by omega) (by decide) hv, ?_⟩
          rw [q]
          conv => whnf
          refine ⟨rfl, ?_⟩
          conv => whnf
          refine ⟨?_, (), trivial, rfl, rfl, ?_, ?_⟩
          · exact g0
          · exact ent
          · exact ent
      rintro ⟨⟩ -
      have hT2 : (T ++ headT c).length ≤ 60000 := by rw [List.length_append]; omega
      conv => whnf
      refine ⟨trivial, ?_⟩
      refine LSem.meet (n := 68) mix (α := Unit) (fun _ => True)
        (fun _ => [(5, .pt 80 0 0), (6, .fn (.func 19) [] [.pt 80 0 0]), (8, .pt 128 0 0), (15, .sl τ 7 l.length (fl eCd l)), (16, .int .i64 l.length), (17, .int .i64 i)])
        (fun _ => [(80, .bld 54 5 (T ++ headT c ++ daysT c)), (128, .box (eCd c))]) ?_ ?_
      · conv => whnf
        by_cases hd : c.f = 0 ∧ c.u = 364
        · have q : T ++ headT c = T ++ headT c ++ daysT c := by unfold daysT; rw [if_pos hd, List.append_nil]
          refine ⟨trivial, fun hc => ?_, fun hc => ?_⟩
          · exact absurd hc (by rw [hd.1, hd.2]; decide)
          conv => whnf
          refine ⟨?_, (), trivial, rfl, rfl, ?_, ?_⟩
          · exact g0
          · exact ent
          · exact ent
        · have q : T ++ headT c ++ putT (32 :: wDays) [c.f, c.u] = T ++ headT c ++ daysT c := by unfold daysT; rw [if_neg hd]
          refine ⟨trivial, fun hc => ?_, fun hc => ?_⟩
          · conv => whnf
            refine ⟨_, fun _ => call19b (32 :: wDays) c.f c.u (T ++ headT c) (by omega) (by decide) (by unfold r64; omega), ?_⟩
            rw [q]
            conv => whnf
            refine ⟨?_, (), trivial, rfl, rfl, ?_, ?_⟩
            · exact g0
            · exact ent
            · exact ent
          · refine absurd hc fun hc => hd ?_
            replace hc : (!(c.f == 0 && (c.u == 364 && true))) = false := hc
            simpa using hc
      rintro ⟨⟩ -
      have hT3 : (T ++ headT c ++ daysT c).length ≤ 60100 := by rw [List.length_append]; omega
      conv => whnf
      refine ⟨trivial, ?_⟩
      refine LSem.meet (n := 68) mix (α := Unit) (fun _ => True)
        (fun _ => [(5, .pt 80 0 0), (6, .fn (.func 19) [] [.pt 80 0 0]), (8, .pt 128 0 0), (15, .sl τ 7 l.length (fl eCd l)), (16, .int .i64 l.length), (17, .int .i64 i)])
        (fun _ => [(80, .bld 54 5 (T ++ headT c ++ daysT c ++ aboveT c)), (128, .box (eCd c))]) ?_ ?_
      · conv => whnf
        refine ⟨trivial, fun hc => ?_, fun hc => ?_⟩
        · simp only [bp] at hc
          have q : T ++ headT c ++ daysT c ++ putT (32 :: wAbove) [c.a] = T ++ headT c ++ daysT c ++ aboveT c := by unfold aboveT; rw [if_neg hc]
          conv => whnf
          refine ⟨_, fun _ => call19a (32 :: wAbove) c.a (T ++ headT c ++ daysT c) (by omega) (by decide) (by unfold r64; omega), ?_⟩
          rw [q]
          conv => whnf
          refine ⟨?_, (), trivial, rfl, rfl, ?_, ?_⟩
          · exact g0
          · exact ent
          · exact ent
        · simp only [bp] at hc
          have q : T ++ headT c ++ daysT c = T ++ headT c ++ daysT c ++ aboveT c := by unfold aboveT; rw [if_pos hc, List.append_nil]
          conv => whnf
          refine ⟨?_, (), trivial, rfl, rfl, ?_, ?_⟩
          · exact g0
          · exact ent
          · exact ent
      rintro ⟨⟩ -
      have hT4 : (T ++ headT c ++ daysT c ++ aboveT c).length ≤ 60200 := by rw [List.length_append]; omega
      conv => whnf
      refine ⟨trivial, ?_⟩
      refine LSem.meet (n := 68) mix (α := Unit) (fun _ => True)
        (fun _ => [(5, .pt 80 0 0), (6, .fn (.func 19) [] [.pt 80 0 0]), (8, .pt 128 0 0), (15, .sl τ 7 l.length (fl eCd l)), (16, .int .i64 l.length), (17, .int .i64 i)])
        (fun _ => [(80, .bld 54 5 (T ++ headT c ++ daysT c ++ aboveT c ++ belowT c)), (128, .box (eCd c))]) ?_ ?_
      · conv => whnf
        refine ⟨trivial, fun hc => ?_, fun hc => ?_⟩
        · simp only [bp] at hc
          have q : T ++ headT c ++ daysT c ++ aboveT c ++ putT (32 :: wBelow) [c.b] = T ++ headT c ++ daysT c ++ aboveT c ++ belowT c := by unfold belowT; rw [if_neg hc]
          conv => whnf
          refine ⟨_, fun _ => call19a (32 :: wBelow) c.b (T ++ headT c ++ daysT c ++ aboveT c) (by omega) (by decide) (by unfold r64; omega), ?_⟩
          rw [q]
          conv => whnf
          refine ⟨?_, (), trivial, rfl, rfl, ?_, ?_⟩
          · exact g0
          · exact ent
          · exact ent
        · simp only [bp] at hc
          have q : T ++ headT c ++ daysT c ++ aboveT c = T ++ headT c ++ daysT c ++ aboveT c ++ belowT c := by unfold belowT; rw [if_pos hc, List.append_nil]
          conv => whnf
          refine ⟨?_, (), trivial, rfl, rfl, ?_, ?_⟩
          · exact g0
          · exact ent
          · exact ent
      rintro ⟨⟩ -
      have hT5 : (T ++ headT c ++ daysT c ++ aboveT c ++ belowT c).length ≤ 60300 := by rw [List.length_append]; omega
      have q : (T ++ headT c ++ daysT c ++ aboveT c ++ belowT c) ++ [10] = printC (l.take (i + 1)) := by rw [hpt]; simp [lineT]
      conv => whnf
      refine ⟨_, fun _ => call22 (T ++ headT c ++ daysT c ++ aboveT c ++ belowT c) 10 (by omega), ?_⟩
      rw [q]
      conv => whnf
      refine ⟨?_, i + 1, hlt, by omega, rfl, rfl, ?_, ?_⟩
      · exact g0
      · exact ent
      · exact ent
    · replace hc := of_decide_eq_false hc
      have hk : i = l.length := by
        have h : ¬ (i : Int) < l.length := hc
        omega
      subst hk
      rw [List.take_length]
      conv => whnf
      refine ⟨_, fun _ => call23z (printC l), ?_⟩
      conv => whnf
      exact ret
end Pv
end Go.Proofs.YtknidebojogodaaDoor
/- LAW 13, PLAIN: what the program reads of a line's words is what they say; conditions are read back from their text. -/
set_option linter.unusedSimpArgs false
set_option linter.unusedVariables false
namespace Go.Proofs.YtknidebojogodaaDoor
namespace Pv
def outO (x : Cd × Bool) : Option Cd := if x.2 = true then some x.1 else none
theorem partsG_bad (n : Nat) (c : Cd) (d a b : Bool) (w : List (List UInt8)) : outO (partsG n c true d a b w) = none := by
  cases n with
  | zero => rfl
  | succ n => unfold partsG; rw [if_pos rfl]; rfl
theorem partsG_badE {x : Bool} (hx : x = true) (n : Nat) (c : Cd) (d a b : Bool) (w : List (List UInt8)) : outO (partsG n c x d a b w) = none := by
  subst hx; exact partsG_bad ..
theorem partsG_O (n : Nat) : ∀ (c : Cd) (d a b : Bool) (w : List (List UInt8)), w.length < n → outO (partsG n c false d a b w) = partsO c d a b w := by
  induction n with
  | zero => intro c d a b w h; omega
  | succ n ih =>
    intro c d a b w h
    match w, h with
    | [], h => unfold partsG partsO; rfl
    | [x], h =>
      unfold partsG partsO
      dsimp only
      rw [if_neg (by decide)]
      split
      · exact partsG_badE (by cases d <;> rfl) ..
      · split
        · exact partsG_badE (by cases a <;> rfl) ..
        · split
          · exact partsG_badE (by cases b <;> rfl) ..
          · rfl
    | x :: y :: r, h =>
      simp only [List.length_cons] at h
      have hy : numB (y :: r) = (numF y).isNone := rfl
      have hg : numG (y :: r) = (numF y).getD 0 := rfl
      unfold partsG partsO
      dsimp only
      rw [if_neg (by decide)]
      by_cases e1 : x = wDays
      · rw [if_pos e1, if_pos e1]
        cases d with
        | true => rw [if_pos rfl]; exact partsG_badE rfl ..
        | false =>
          rw [if_neg (by decide)]
          cases r with
          | nil => exact partsG_badE (by show ((false || numB [y]) || true) = true; exact Bool.or_true _) ..
          | cons y2 r2 =>
            dsimp only
            have hy2 : numB (y :: y2 :: r2).tail = (numF y2).isNone := rfl
            have hg2 : numG (y :: y2 :: r2).tail = (numF y2).getD 0 := rfl
            rw [hy, hy2, hg, hg2]
            cases h1 : numF y with
            | none => exact partsG_badE (by cases (numF y2).isNone <;> rfl) ..
            | some m =>
              cases h2 : numF y2 with
              | none => exact partsG_badE rfl ..
              | some k =>
                simp only [List.length_cons] at h
                exact ih _ _ _ _ _ (by show r2.length < n; omega)
      rw [if_neg e1, if_neg e1]
      by_cases e2 : x = wAbove
      · rw [if_pos e2, if_pos e2, hy, hg]
        cases a with
        | true => rw [if_pos rfl]; exact partsG_badE rfl ..
        | false =>
          rw [if_neg (by decide)]
          cases h1 : numF y with
          | none => exact partsG_badE rfl ..
          | some m => exact ih _ _ _ _ _ (by show r.length < n; omega)
      rw [if_neg e2, if_neg e2]
      by_cases e3 : x = wBelow
      · rw [if_pos e3, if_pos e3, hy, hg]
        cases b with
        | true => rw [if_pos rfl]; exact partsG_badE rfl ..
        | false =>
          rw [if_neg (by decide)]
          cases h1 : numF y with
          | none => exact partsG_badE rfl ..
          | some m => exact ih _ _ _ _ _ (by show r.length < n; omega)
      rw [if_neg e3, if_neg e3]
      rfl
theorem condG_O (w : List (List UInt8)) : outO (condG w) = condO w := by
  unfold condG
  match w with
  | [] => exact partsG_badE rfl ..
  | [_] => exact partsG_badE (by simp [headG, numB, numF]) ..
  | [_, _] => exact partsG_badE (by simp [headG, numB, numF]) ..
  | [_, _, _] => exact partsG_badE (by simp [headG, numB, numF]) ..
  | rk :: x :: kd :: y :: r =>
    have hb : (headG (rk :: x :: kd :: y :: r)).2 = ((((!(rk == wRank)) || (numF x).isNone) || false || (kindOf kd == 0)) || (numF y).isNone) := rfl
    have hc : (headG (rk :: x :: kd :: y :: r)).1 = ⟨(numF x).getD 0, kindOf kd, (numF y).getD 0, 0, 364, 0, 16777216⟩ := rfl
    rw [hb, hc]
    unfold condO
    dsimp only
    by_cases e1 : rk = wRank
    · rw [if_pos e1]
      cases h1 : numF x with
      | none => exact partsG_badE (by simp) ..
      | some m =>
        cases h2 : numF y with
        | none => exact partsG_badE (by simp) ..
        | some k =>
          dsimp only
          by_cases e2 : kindOf kd = 0
          · rw [if_pos e2]; exact partsG_badE (by simp [e2]) ..
          · rw [if_neg e2, show ((((!(rk == wRank)) || (some m).isNone) || false || (kindOf kd == 0)) || (some k).isNone) = false by simp [e1, e2]]
            exact partsG_O _ _ _ _ _ _ (by show r.length < _; simp only [List.length_cons]; omega)
    · rw [if_neg e1]; exact partsG_badE (by simp [e1]) ..
theorem condG_some {w : List (List UInt8)} {c : Cd} (h : condO w = some c) : condG w = (c, true) := by
  have := condG_O w
  rw [h] at this
  unfold outO at this
  split at this
  · rename_i h2
    injection this with h3
    exact Prod.ext h3 h2
  · cases this
theorem condG_none {w : List (List UInt8)} (h : condO w = none) : (condG w).2 = false := by
  have := condG_O w
  rw [h] at this
  unfold outO at this
  split at this
  · cases this
  · rename_i h2; simpa using h2
/-! ### the text of conditions, in lines and words -/
def joinW : List (List UInt8) → List UInt8
  | [] => []
  | x :: xs => x ++ xs.flatMap (32 :: ·)
theorem joinW_cons (x y : List UInt8) (r : List (List UInt8)) : joinW (x :: y :: r) = x ++ 32 :: joinW (y :: r) := by simp [joinW]
theorem words_joinW : ∀ {w : List (List UInt8)}, (∀ x ∈ w, WordOK isBl x) → wordsB isBl (joinW w) = w
  | [], _ => rfl
  | [x], h => by
    have : joinW [x] = x := by simp [joinW]
    rw [this]; exact words_one (h x (by simp))
  | x :: y :: r, h => by
    rw [joinW_cons, words_app isBl x 32 rfl, words_one (h x (by simp)), words_joinW (w := y :: r) (fun z hz => h z (by simp [hz]))]; rfl
theorem joinW_clean : ∀ {w : List (List UInt8)}, (∀ x ∈ w, WordOK isBl x) → ∀ b ∈ joinW w, b ≠ 10
  | [], _, b, hb => by simp [joinW] at hb
  | [x], h, b, hb => by
    have : joinW [x] = x := by simp [joinW]
    rw [this] at hb
    have := (h x (by simp)).2 b hb
    intro e; subst e; cases this
  | x :: y :: r, h, b, hb => by
    rw [joinW_cons, List.mem_append, List.mem_cons] at hb
    rcases hb with hb | rfl | hb
    · have := (h x (by simp)).2 b hb
      intro e; subst e; cases this
    · decide
    · exact joinW_clean (w := y :: r) (fun z hz => h z (by simp [hz])) b hb
theorem itoa_ok {n : Int} (h0 : 0 ≤ n) : WordOK isBl (Lib.itoa n) := by
  have he : Lib.itoa n = Lib.decDigits n.toNat := by unfold Lib.itoa; rw [if_neg (by omega)]
  refine ⟨fun e => ?_, fun b hb => ?_⟩
  · have := decDigits_ne n.toNat
    rw [← he, e] at this; simp at this
  · have := itoa_clean h0 b hb
    exact isBl_not (fun h => h.elim this.1 this.2)
theorem wordsOf_ok {c : Cd} (h : oneC c = 0) : ∀ x ∈ wordsOf c, WordOK isBl x := by
  obtain ⟨h1, h2, h3⟩ := oneC_ok h
  unfold badC at h3
  have hk : WordOK isBl (kindW c.k) := by
    have : c.k = 1 ∨ c.k = 2 ∨ c.k = 3 ∨ c.k = 4 := by omega
    rcases this with e | e | e | e <;> rw [e] <;> exact ⟨by decide, by decide⟩
  intro x hx
  unfold wordsOf at hx
  simp only [List.mem_append, List.mem_cons, List.not_mem_nil, or_false] at hx
  rcases hx with (rfl | rfl | rfl | rfl) | hx | hx | hx
  · exact ⟨by decide, by decide⟩
  · exact itoa_ok (by omega)
  · exact hk
  · exact itoa_ok (by omega)
  · unfold daysW at hx
    split at hx
    · simp at hx
    · simp only [List.mem_cons, List.not_mem_nil, or_false] at hx
      rcases hx with rfl | rfl | rfl
      · exact ⟨by decide, by decide⟩
      · exact itoa_ok (by omega)
      · exact itoa_ok (by omega)
  · unfold aboveW at hx
    split at hx
    · simp at hx
    · simp only [List.mem_cons, List.not_mem_nil, or_false] at hx
      rcases hx with rfl | rfl
      · exact ⟨by decide, by decide⟩
      · exact itoa_ok (by omega)
  · unfold belowW at hx
    split at hx
    · simp at hx
    · simp only [List.mem_cons, List.not_mem_nil, or_false] at hx
      rcases hx with rfl | rfl
      · exact ⟨by decide, by decide⟩
      · exact itoa_ok (by omega)
theorem lineT_join (c : Cd) : lineT c = joinW (wordsOf c) ++ [10] := by
  have h1 : daysT c = (daysW c).flatMap (32 :: ·) := by unfold daysT daysW; split <;> simp [putT]
  have h2 : aboveT c = (aboveW c).flatMap (32 :: ·) := by unfold aboveT aboveW; split <;> simp [putT]
  have h3 : belowT c = (belowW c).flatMap (32 :: ·) := by unfold belowT belowW; split <;> simp [putT]
  unfold lineT headT wordsOf
  rw [h1, h2, h3]
  simp [joinW, putT]
theorem linesW_line {c : Cd} (h : oneC c = 0) (rest : List UInt8) : linesW (lineT c ++ rest) = wordsOf c :: linesW rest := by
  have hok := wordsOf_ok h
  rw [lineT_join, List.append_assoc]
  unfold linesW
  rw [show [10] ++ rest = 10 :: rest from rfl, splitC_cut (joinW_clean hok), List.map_cons, words_joinW hok]
theorem linesW_print : ∀ {l : List Cd}, (∀ c ∈ l, oneC c = 0) → ∀ rest, linesW (printC l ++ rest) = l.map wordsOf ++ linesW rest
  | [], _, rest => rfl
  | c :: l, h, rest => by
    have ih := linesW_print (l := l) (fun x hx => h x (List.mem_cons_of_mem _ hx)) rest
    rw [show printC (c :: l) = lineT c ++ printC l from rfl, List.append_assoc, linesW_line (h c (List.mem_cons_self ..)), ih]; rfl
def numd : Int → List Cd → List (Int × List (List UInt8))
  | _, [] => []
  | i, c :: l => (i + 1, wordsOf c) :: numd (i + 1) l
theorem numd_len : ∀ (l : List Cd) (i : Int), (numd i l).length = l.length
  | [], _ => rfl
  | c :: l, i => by simp [numd, numd_len l]
theorem linL_numd : ∀ (l : List Cd) (i : Int) (W : List (List (List UInt8))), linL i (l.map wordsOf ++ W) = numd i l ++ linL (i + l.length) W
  | [], i, W => by simp [numd]
  | c :: l, i, W => by
    have ih := linL_numd l (i + 1) W
    have hc : cntd (wordsOf c) = true := rfl
    rw [List.map_cons, List.cons_append]
    show (if cntd (wordsOf c) = true then (i + 1, wordsOf c) :: linL (i + 1) (l.map wordsOf ++ W) else linL (i + 1) (l.map wordsOf ++ W)) = _
    rw [if_pos hc, ih, List.length_cons, show i + 1 + (l.length : Int) = i + ((l.length + 1 : Nat) : Int) by omega]
    rfl
theorem parG_numd : ∀ {l : List Cd}, (∀ c ∈ l, oneC c = 0) → ∀ (i : Int) (R : List (Int × List (List UInt8))) (out : List Cd), parG (numd i l ++ R) out = parG R (out ++ l)
  | [], _, i, R, out => by simp [numd]
  | c :: l, h, i, R, out => by
    have ih := parG_numd (l := l) (fun x hx => h x (List.mem_cons_of_mem _ hx)) (i + 1) R (out ++ [c])
    have hc := h c (List.mem_cons_self ..)
    have hg := condG_some (cond_back hc)
    show (if (condG (wordsOf c)).2 = false then ([], i + 1, 7) else if oneC (condG (wordsOf c)).1 ≠ 0 then ([], i + 1, oneC (condG (wordsOf c)).1) else parG (numd (i + 1) l ++ R) (out ++ [(condG (wordsOf c)).1])) = _
    rw [hg]
    dsimp only
    rw [if_neg (by decide), if_neg (fun e => e hc), ih, List.append_assoc]
    rfl
theorem linesW_nil : linesW [] = [[]] := rfl
theorem parse_print {l : List Cd} (h : limC l = 0) : parseG (printC l) = (l, 0, 0) := by
  obtain ⟨hl, hV⟩ := limC_ok h
  have hlen := printC_len hV
  have hL : linL 0 (linesW (printC l)) = numd 0 l := by
    have := linesW_print hV []
    rw [List.append_nil, linesW_nil] at this
    rw [this, linL_numd]
    show numd 0 l ++ [] = _
    rw [List.append_nil]
  unfold parseG
  rw [if_neg (by omega), hL, numd_len, if_neg (by omega)]
  have := parG_numd hV 0 [] []
  rw [List.append_nil, List.nil_append] at this
  rw [this]; rfl
theorem parG_ok : ∀ {L : List (Int × List (List UInt8))} {out a : List Cd} {n : Int}, parG L out = (a, n, 0) → (∀ c ∈ out, oneC c = 0) → n = 0 ∧ (∀ c ∈ a, oneC c = 0) ∧ a.length ≤ out.length + L.length
  | [], out, a, n, h, ho => by
    simp only [parG, Prod.mk.injEq] at h
    obtain ⟨rfl, rfl, _⟩ := h
    exact ⟨rfl, ho, Nat.le_refl _⟩
  | x :: L, out, a, n, h, ho => by
    unfold parG at h
    split at h
    · simp at h
    · split at h
      · rename_i h2
        simp only [Prod.mk.injEq] at h
        exact absurd h.2.2 h2
      · rename_i h2
        obtain ⟨g1, g2, g3⟩ := parG_ok h fun c hc => by
          rcases List.mem_append.1 hc with hc | hc
          · exact ho c hc
          · rw [List.mem_singleton] at hc; subst hc; exact Classical.not_not.1 h2
        refine ⟨g1, g2, ?_⟩
        rw [List.length_append] at g3
        simp only [List.length_cons, List.length_nil] at g3 ⊢
        omega
theorem allC_of : ∀ {l : List Cd}, (∀ c ∈ l, oneC c = 0) → allC l = 0
  | [], _ => rfl
  | c :: l, h => by
    unfold allC
    rw [if_neg (fun e => e (h c (List.mem_cons_self ..)))]
    exact allC_of fun x hx => h x (List.mem_cons_of_mem _ hx)
theorem limC_of {l : List Cd} (hl : l.length ≤ 200) (h : ∀ c ∈ l, oneC c = 0) : limC l = 0 := by
  unfold limC
  rw [if_neg (by omega), allC_of h]
theorem parse_ok {s : List UInt8} (h : (parseG s).2.2 = 0) : limC (parseG s).1 = 0 ∧ (parseG s).2.1 = 0 := by
  have hp : parseG s = ((parseG s).1, (parseG s).2.1, 0) := Prod.ext rfl (Prod.ext rfl h)
  generalize (parseG s).1 = a at hp ⊢
  generalize (parseG s).2.1 = n at hp ⊢
  unfold parseG at hp
  split at hp
  · simp at hp
  · split at hp
    · simp at hp
    · obtain ⟨g1, g2, g3⟩ := parG_ok hp (by simp)
      simp only [List.length_nil] at g3
      exact ⟨limC_of (by omega) g2, g1⟩
theorem made_one {c : Cd} (h : CondOK c) : oneC c = 0 := by
  obtain ⟨h1, h2, h3, h4, h5, h6, h7, h8⟩ := h
  unfold oneC
  rw [if_neg (by omega), if_neg (by omega), if_neg (by unfold badC; omega)]
theorem made_ok (d : Dk) : limC (condsF d).1 = 0 ∧ (∀ c ∈ (condsF d).1, oneC c = 0) ∧ (condsF d).1.length ≤ 6 := by
  obtain ⟨h1, h2, _⟩ := condsF_ok d
  have h3 : ∀ c ∈ (condsF d).1, oneC c = 0 := fun c hc => by
    obtain ⟨i, hi, rfl⟩ := List.getElem_of_mem hc
    have := h2 i hi
    rw [show (condsF d).1.getD i default = (condsF d).1[i] by simp [List.getD, hi]] at this
    exact made_one this
  exact ⟨limC_of (by omega) h3, h3, h1⟩
end Pv
end Go.Proofs.YtknidebojogodaaDoor
/- LAW 13, THE WALKS: words of kinds. -/
set_option linter.unusedSimpArgs false
set_option linter.unusedVariables false
namespace Go.Proofs.YtknidebojogodaaDoor
namespace Pv
def c15 : C := (.seq (.reg [⟨(some 2), 32, none, .mv (.c (.str []))⟩])
  (.seq (.seq (.reg [⟨(some 3), 48, none, .mv (.t 0)⟩,
    ⟨(some 4), 64, none, .bi false .lss (.t 3) (.c (.int .i64 0))⟩,
    ⟨(some 5), 80, none, .mv (.t 4)⟩,
    ⟨(some 6), 96, (some (5, false)), .mv (.t 0)⟩,
    ⟨(some 7), 112, (some (5, false)), .bi false .geq (.t 6) (.c (.int .i64 5))⟩,
    ⟨(some 8), 128, none, .pick (.t 5) (.c (.bool true)) (.t 7)⟩])
  (.cond (.t 8) (.seq (.reg [⟨(some 2), 32, none, .mv (.c (.str []))⟩])
  .ret) .skip))
  (.seq (.reg [⟨(some 9), 144, none, .mv (.t 0)⟩,
    ⟨(some 10), 160, none, .iaa 5 1 (.c (.rp 1 [(.str []), (.str [108, 101, 97, 115, 116]), (.str [109, 111, 115, 116]), (.str [117, 112]), (.str [100, 111, 119, 110])])) (.t 9)⟩,
    ⟨(some 11), 176, none, .ld 1 false (.t 10)⟩,
    ⟨(some 2), 32, none, .mv (.t 11)⟩])
  .ret)))
theorem fits15 : fits Tryd.prog false Tryd.f15 1 12 [(2, none)] = some c15.er := by kernel_rfl
theorem kind_cases {k : Int} (h : 0 ≤ k ∧ k < 5) : k = 0 ∨ k = 1 ∨ k = 2 ∨ k = 3 ∨ k = 4 := by omega
theorem kindW_out {k : Int} (h : k < 1 ∨ 4 < k) : kindW k = [] := by
  unfold kindW
  rw [if_neg (by omega), if_neg (by omega), if_neg (by omega), if_neg (by omega)]
theorem call15 (k : Int) : PureCall Tryd.prog 15 [.int .i64 k] [] ⟨.str (kindW k), [], []⟩ := by
  refine pure_call mix Tryd.func15 fits15 rfl ?_
  conv => whnf
  refine ⟨?_, fun hc => ?_, fun hc => ?_⟩
  · exact g0
  · simp only [bp] at hc
    rw [kindW_out (by omega)]
    conv => whnf
    exact ret
  · simp only [bp] at hc
    rcases kind_cases (k := k) (by omega) with rfl | rfl | rfl | rfl | rfl
    · rw [show kindW 0 = [] from rfl]
      conv => whnf
      exact ret
    · rw [show kindW 1 = wLeast from rfl]
      conv => whnf
      exact ret
    · rw [show kindW 2 = wMost from rfl]
      conv => whnf
      exact ret
    · rw [show kindW 3 = wUp from rfl]
      conv => whnf
      exact ret
    · rw [show kindW 4 = wDown from rfl]
      conv => whnf
      exact ret
end Pv
end Go.Proofs.YtknidebojogodaaDoor
/- LAW 13, THE WALKS: equality of lists of conditions; the example. -/
set_option linter.unusedSimpArgs false
set_option linter.unusedVariables false
namespace Go.Proofs.YtknidebojogodaaDoor
namespace Pv
def c10L1 : C := (.seq (.reg [⟨(some 14), 224, none, .bi false .lss (.t 13) (.t 12)⟩])
  (.seq (.cond (.t 14) .skip (.exit 0))
  (.seq (.block 1 (.seq (.reg [⟨(some 15), 240, none, .mv (.t 13)⟩,
    ⟨(some 5), 80, none, .mv (.t 15)⟩])
  (.seq (.drw [⟨(some 16), 256, none, .mv (.t 0)⟩,
    ⟨(some 17), 272, none, .mv (.t 5)⟩,
    ⟨(some 18), 288, none, .ia 7 (.t 16) (.t 17)⟩,
    ⟨(some 19), 304, none, .ld 7 true (.t 18)⟩,
    ⟨(some 20), 320, none, .mv (.t 1)⟩,
    ⟨(some 21), 336, none, .mv (.t 5)⟩,
    ⟨(some 22), 352, none, .ia 7 (.t 20) (.t 21)⟩,
    ⟨(some 23), 368, none, .ld 7 true (.t 22)⟩,
    ⟨(some 24), 384, none, .eqa true [0, 0, 0, 0, 0, 0, 0] (.t 19) (.t 23)⟩]
    [(0, 1, 16), (0, 4, 16), (0, 5, 16), (0, 6, 16), (0, 7, 16), (1, 4, 17), (1, 5, 17), (1, 6, 17), (1, 7, 17), (2, 4, 18), (2, 5, 18), (2, 6, 18), (2, 7, 18), (3, 4, 19), (3, 5, 19), (3, 6, 19), (3, 7, 19), (4, 5, 20)])
  (.cond (.t 24) (.seq (.reg [⟨(some 4), 64, none, .mv (.c (.bool false))⟩])
  .ret) .skip))))
  (.reg [⟨(some 25), 400, none, .bi false .add (.t 13) (.c (.int .i64 1))⟩,
    ⟨(some 13), 208, none, .mv (.t 25)⟩]))))
def c10 : C := (.seq (.reg [⟨(some 4), 64, none, .mv (.c (.bool false))⟩])
  (.seq (.seq (.reg [⟨(some 6), 96, none, .mv (.t 0)⟩,
    ⟨(some 7), 112, none, .len (.t 6)⟩,
    ⟨(some 8), 128, none, .mv (.t 1)⟩,
    ⟨(some 9), 144, none, .len (.t 8)⟩,
    ⟨(some 10), 160, none, .bi false .neq (.t 7) (.t 9)⟩])
  (.cond (.t 10) (.seq (.reg [⟨(some 4), 64, none, .mv (.c (.bool false))⟩])
  .ret) .skip))
  (.seq (.seq (.reg [⟨(some 11), 176, none, .mv (.t 0)⟩,
    ⟨(some 12), 192, none, .len (.t 11)⟩,
    ⟨(some 13), 208, none, .mv (.c (.int .i64 0))⟩])
  (.block 0 (.loop c10L1)))
  (.seq (.reg [⟨(some 4), 64, none, .mv (.c (.bool true))⟩])
  .ret))))
theorem fits10 : fits Tryd.prog false Tryd.f10 2 26 [(4, none)] = some c10.er := by kernel_rfl
def c5 : C := (.seq (.reg [⟨(some 0), 0, none, .mv (.c (.bool false))⟩])
  (.seq (.reg [⟨(some 5), 80, none, .call (.c (.fn (.func 9) [] [])) [(.c (.str [114, 97, 110, 107, 32, 51, 32, 108, 101, 97, 115, 116, 32, 49, 50, 48, 32, 97, 98, 111, 118, 101, 32, 53, 48, 48, 48, 32, 100, 97, 121, 115, 32, 54, 48, 32, 49, 53, 48]))]⟩,
    ⟨(some 4), 64, none, .mv (.t 5)⟩,
    ⟨(some 6), 96, none, .ex (.t 4) 0⟩,
    ⟨(some 7), 112, none, .ex (.t 4) 1⟩,
    ⟨(some 8), 128, none, .ex (.t 4) 2⟩,
    ⟨(some 1), 16, none, .mv (.t 6)⟩,
    ⟨(some 2), 32, none, .mv (.t 7)⟩,
    ⟨(some 3), 48, none, .mv (.t 8)⟩])
  (.seq (.reg [⟨(some 9), 144, none, .mv (.t 3)⟩,
    ⟨(some 10), 160, none, .bi false .eql (.t 9) (.c (.int .i64 0))⟩,
    ⟨(some 11), 176, none, .mv (.t 10)⟩,
    ⟨(some 12), 192, (some (11, true)), .mv (.t 2)⟩,
    ⟨(some 13), 208, (some (11, true)), .bi false .eql (.t 12) (.c (.int .i64 0))⟩,
    ⟨(some 14), 224, none, .pick (.t 11) (.t 13) (.c (.bool false))⟩,
    ⟨(some 15), 240, none, .mv (.t 14)⟩,
    ⟨(some 16), 256, (some (15, true)), .mv (.t 1)⟩,
    ⟨(some 17), 272, (some (15, true)), .len (.t 16)⟩,
    ⟨(some 18), 288, (some (15, true)), .bi false .eql (.t 17) (.c (.int .i64 1))⟩,
    ⟨(some 19), 304, none, .pick (.t 15) (.t 18) (.c (.bool false))⟩,
    ⟨(some 20), 320, none, .mv (.t 19)⟩,
    ⟨(some 21), 336, (some (20, true)), .mv (.t 1)⟩,
    ⟨(some 22), 352, (some (20, true)), .ia 7 (.t 21) (.c (.int .i64 0))⟩,
    ⟨(some 23), 368, (some (20, true)), .ld 7 true (.t 22)⟩,
    ⟨(some 24), 384, (some (20, true)), .bd [(.int .i64 0), (.int .i64 0)] [(0, 1, (.c (.int .i64 60))), (1, 1, (.c (.int .i64 150)))]⟩,
    ⟨(some 25), 400, (some (20, true)), .bd [(.int .i64 0), (.int .i64 0), (.int .i64 0), (.int .i64 0), (.int .i64 0), (.int .i64 0), (.int .i64 0)] [(0, 1, (.c (.int .i64 3))), (1, 1, (.c (.int .i64 1))), (2, 1, (.c (.int .i64 120))), (3, 2, (.t 24)), (5, 1, (.c (.int .i64 5000))), (6, 1, (.c (.int .i64 16777216)))]⟩,
    ⟨(some 26), 416, (some (20, true)), .eqa false [0, 0, 0, 0, 0, 0, 0] (.t 23) (.t 25)⟩,
    ⟨(some 27), 432, none, .pick (.t 20) (.t 26) (.c (.bool false))⟩,
    ⟨(some 28), 448, none, .mv (.t 27)⟩,
    ⟨(some 29), 464, (some (28, true)), .call (.c (.fn (.func 15) [] [])) [(.c (.int .i64 4))]⟩,
    ⟨(some 30), 480, (some (28, true)), .bi false .eql (.t 29) (.c (.str [100, 111, 119, 110]))⟩,
    ⟨(some 31), 496, none, .pick (.t 28) (.t 30) (.c (.bool false))⟩,
    ⟨(some 0), 0, none, .mv (.t 31)⟩])
  .ret)))
theorem fits5 : fits Tryd.prog false Tryd.f5 0 32 [(0, none)] = some c5.er := by kernel_rfl
theorem eq_cd (x y : Cd) : ((x.r == y.r) && ((x.k == y.k) && ((x.v == y.v) && ((x.f == y.f) && ((x.u == y.u) && ((x.a == y.a) && ((x.b == y.b) && true))))))) = decide (x = y) := by
  rw [Bool.eq_iff_iff]
  obtain ⟨a1, a2, a3, a4, a5, a6, a7⟩ := x
  obtain ⟨b1, b2, b3, b4, b5, b6, b7⟩ := y
  simp [and_assoc]
theorem list_ext_getD {α : Type} [Inhabited α] {a b : List α} (hl : a.length = b.length) (h : ∀ i, i < a.length → a.getD i default = b.getD i default) : a = b := by
  apply List.ext_getElem hl
  intro i h1 h2
  have := h i h1
  simpa [List.getD, h1, h2] using this
set_option maxRecDepth 100000 in
theorem call10 (τ τ' : Nat) (a b : List Cd) (ha : a.length ≤ 4611686018427387904) : PureCall Tryd.prog 10 [.sl τ 7 a.length (fl eCd a), .sl τ' 7 b.length (fl eCd b)] [] ⟨.bool (decide (a = b)), [], []⟩ := by
  refine pure_call mix Tryd.func10 fits10 rfl ?_
  conv => whnf
  refine ⟨trivial, fun hc => ?_, fun hc => ?_⟩
  · simp only [bp] at hc
    rw [decide_eq_false (p := a = b) (fun e => hc (by rw [e]))]
    conv => whnf
    exact ret
  simp only [bp] at hc
  have hl : a.length = b.length := by omega
  conv => whnf
  refine ⟨trivial, ?_⟩
  refine LSem.loop (n := 26) mix (α := Nat) (fun i => i ≤ a.length ∧ ∀ k, k < i → a.getD k default = b.getD k default)
    (fun i => [(0, .sl τ 7 a.length (fl eCd a)), (1, .sl τ' 7 b.length (fl eCd b)), (12, .int .i64 a.length), (13, .int .i64 i)])
    (fun i => []) (fun i => a.length - i) 0 ?_ ?_ ?_
  · exact ⟨Nat.zero_le _, fun k hk => absurd hk (Nat.not_lt_zero _)⟩
  · refine ⟨rfl, rfl, ?_, ?_⟩ <;> exact ent
  · rintro i ⟨hi, hall⟩
    have hj : ((i : Int)).toNat = i := by omega
    conv => whnf
    refine ⟨trivial, fun hc => ?_, fun hc => ?_⟩
    · replace hc := of_decide_eq_true hc
      have hlt : i < a.length := by
        have h : (i : Int) < a.length := hc
        omega
      conv => whnf
      rw [hj]
      refine ⟨rfl, ?_⟩
      conv => whnf
      have hE := eq_cd (a.getD i default) (b.getD i default)
      refine ⟨?_, fun h => ?_, fun h => ?_⟩
      · exact g0
      · replace h : (!((a.getD i default).r == (b.getD i default).r && ((a.getD i default).k == (b.getD i default).k && ((a.getD i default).v == (b.getD i default).v && ((a.getD i default).f == (b.getD i default).f && ((a.getD i default).u == (b.getD i default).u && ((a.getD i default).a == (b.getD i default).a && ((a.getD i default).b == (b.getD i default).b && true)))))))) = true := h
        rw [hE] at h
        rw [decide_eq_false (p := a = b) (fun e => by rw [e] at h; simp at h)]
        conv => whnf
        exact ret
      · replace h : (!((a.getD i default).r == (b.getD i default).r && ((a.getD i default).k == (b.getD i default).k && ((a.getD i default).v == (b.getD i default).v && ((a.getD i default).f == (b.getD i default).f && ((a.getD i default).u == (b.getD i default).u && ((a.getD i default).a == (b.getD i default).a && ((a.getD i default).b == (b.getD i default).b && true)))))))) = false := h
        rw [hE] at h
        have he : a.getD i default = b.getD i default := by
          generalize a.getD i default = x at h ⊢
          generalize b.getD i default = y at h ⊢
          simpa using h
        conv => whnf
        refine ⟨?_, i + 1, ⟨hlt, fun k hk => ?_⟩, by omega, rfl, rfl, ?_, ?_⟩
        · exact g0
        · by_cases e : k = i
          · rw [e]; exact he
          · exact hall k (by omega)
        · exact ent
        · exact ent
    · replace hc := of_decide_eq_false hc
      have hk : i = a.length := by
        have h : ¬ (i : Int) < a.length := hc
        omega
      subst hk
      rw [decide_eq_true (p := a = b) (list_ext_getD hl hall)]
      conv => whnf
      exact ret
theorem awake_text : parseG [114, 97, 110, 107, 32, 51, 32, 108, 101, 97, 115, 116, 32, 49, 50, 48, 32, 97, 98, 111, 118, 101, 32, 53, 48, 48, 48, 32, 100, 97, 121, 115, 32, 54, 48, 32, 49, 53, 48] = ([⟨3, 1, 120, 60, 150, 5000, 16777216⟩], 0, 0) := by decide +kernel
set_option maxRecDepth 100000 in
theorem call5 : PureCall Tryd.prog 5 [] [] ⟨.bool true, [], []⟩ := by
  refine pure_call mix Tryd.func5 fits5 rfl ?_
  have h := call9 [114, 97, 110, 107, 32, 51, 32, 108, 101, 97, 115, 116, 32, 49, 50, 48, 32, 97, 98, 111, 118, 101, 32, 53, 48, 48, 48, 32, 100, 97, 121, 115, 32, 54, 48, 32, 49, 53, 48] (by decide)
  rw [awake_text] at h
  conv => whnf
  refine ⟨_, fun _ => h, ?_⟩
  conv => whnf
  refine ⟨_, fun _ => call15 4, ?_⟩
  conv => whnf
  refine ⟨?_, [], ?_⟩
  · exact g0
  conv => whnf
  refine ⟨rfl, ?_, trivial, trivial⟩
  exact ent
end Pv
end Go.Proofs.YtknidebojogodaaDoor
/- LAW 13: RulesBack answers true. -/
set_option linter.unusedSimpArgs false
set_option linter.unusedVariables false
namespace Go.Proofs.YtknidebojogodaaDoor
namespace Pv
def c3 : C := (.seq (.reg [⟨(some 4), 64, none, .mv (.c (.bool false))⟩])
  (.seq (.seq (.reg [⟨(some 19), 304, none, .mv (.t 1)⟩,
    ⟨(some 20), 320, none, .lens (.t 19)⟩,
    ⟨(some 21), 336, none, .bi false .gtr (.t 20) (.c (.int .i64 3000))⟩])
  (.cond (.t 21) (.seq (.reg [⟨(some 22), 352, none, .call (.c (.fn (.func 5) [] [])) []⟩,
    ⟨(some 4), 64, none, .mv (.t 22)⟩])
  .ret) .skip))
  (.seq (.reg [⟨(some 23), 368, none, .mv (.t 0)⟩,
    ⟨(some 24), 384, none, .call (.c (.fn (.func 7) [] [])) [(.t 23)]⟩,
    ⟨(some 25), 400, none, .call (.c (.fn (.func 6) [] [])) [(.t 24)]⟩,
    ⟨(some 5), 80, none, .mv (.t 25)⟩])
  (.seq (.reg [⟨(some 27), 432, none, .mv (.t 5)⟩,
    ⟨(some 28), 448, none, .call (.c (.fn (.func 8) [] [])) [(.t 27)]⟩,
    ⟨(some 26), 416, none, .mv (.t 28)⟩,
    ⟨(some 29), 464, none, .ex (.t 26) 0⟩,
    ⟨(some 30), 480, none, .ex (.t 26) 1⟩,
    ⟨(some 6), 96, none, .mv (.t 29)⟩,
    ⟨(some 7), 112, none, .mv (.t 30)⟩])
  (.seq (.reg [⟨(some 32), 512, none, .mv (.t 6)⟩,
    ⟨(some 33), 528, none, .call (.c (.fn (.func 9) [] [])) [(.t 32)]⟩,
    ⟨(some 31), 496, none, .mv (.t 33)⟩,
    ⟨(some 34), 544, none, .ex (.t 31) 0⟩,
    ⟨(some 35), 560, none, .ex (.t 31) 1⟩,
    ⟨(some 36), 576, none, .ex (.t 31) 2⟩,
    ⟨(some 8), 128, none, .mv (.t 34)⟩,
    ⟨(some 9), 144, none, .mv (.t 35)⟩,
    ⟨(some 10), 160, none, .mv (.t 36)⟩])
  (.seq (.seq (.reg [⟨(some 37), 592, none, .mv (.t 7)⟩,
    ⟨(some 38), 608, none, .mv (.t 10)⟩,
    ⟨(some 39), 624, none, .bi false .add (.t 37) (.t 38)⟩,
    ⟨(some 40), 640, none, .bi false .neq (.t 39) (.c (.int .i64 0))⟩,
    ⟨(some 41), 656, none, .mv (.t 40)⟩,
    ⟨(some 42), 672, (some (41, false)), .mv (.t 9)⟩,
    ⟨(some 43), 688, (some (41, false)), .bi false .neq (.t 42) (.c (.int .i64 0))⟩,
    ⟨(some 44), 704, none, .pick (.t 41) (.c (.bool true)) (.t 43)⟩,
    ⟨(some 45), 720, none, .mv (.t 44)⟩,
    ⟨(some 46), 736, (some (45, false)), .mv (.t 8)⟩,
    ⟨(some 47), 752, (some (45, false)), .mv (.t 5)⟩,
    ⟨(some 48), 768, (some (45, false)), .call (.c (.fn (.func 10) [] [])) [(.t 46), (.t 47)]⟩,
    ⟨(some 49), 784, (some (45, false)), .un false .not (.t 48)⟩,
    ⟨(some 50), 800, none, .pick (.t 45) (.c (.bool true)) (.t 49)⟩])
  (.cond (.t 50) (.seq (.reg [⟨(some 4), 64, none, .mv (.c (.bool false))⟩])
  .ret) .skip))
  (.seq (.reg [⟨(some 52), 832, none, .mv (.t 1)⟩,
    ⟨(some 53), 848, none, .call (.c (.fn (.func 9) [] [])) [(.t 52)]⟩,
    ⟨(some 51), 816, none, .mv (.t 53)⟩,
    ⟨(some 54), 864, none, .ex (.t 51) 0⟩,
    ⟨(some 55), 880, none, .ex (.t 51) 1⟩,
    ⟨(some 56), 896, none, .ex (.t 51) 2⟩,
    ⟨(some 11), 176, none, .mv (.t 54)⟩,
    ⟨(some 12), 192, none, .mv (.t 55)⟩,
    ⟨(some 13), 208, none, .mv (.t 56)⟩])
  (.seq (.seq (.reg [⟨(some 57), 912, none, .mv (.t 13)⟩,
    ⟨(some 58), 928, none, .bi false .neq (.t 57) (.c (.int .i64 0))⟩])
  (.cond (.t 58) (.seq (.reg [⟨(some 59), 944, none, .call (.c (.fn (.func 5) [] [])) []⟩,
    ⟨(some 4), 64, none, .mv (.t 59)⟩])
  .ret) .skip))
  (.seq (.reg [⟨(some 61), 976, none, .mv (.t 11)⟩,
    ⟨(some 62), 992, none, .call (.c (.fn (.func 8) [] [])) [(.t 61)]⟩,
    ⟨(some 60), 960, none, .mv (.t 62)⟩,
    ⟨(some 63), 1008, none, .ex (.t 60) 0⟩,
    ⟨(some 64), 1024, none, .ex (.t 60) 1⟩,
    ⟨(some 14), 224, none, .mv (.t 63)⟩,
    ⟨(some 15), 240, none, .mv (.t 64)⟩])
  (.seq (.reg [⟨(some 66), 1056, none, .mv (.t 14)⟩,
    ⟨(some 67), 1072, none, .call (.c (.fn (.func 9) [] [])) [(.t 66)]⟩,
    ⟨(some 65), 1040, none, .mv (.t 67)⟩,
    ⟨(some 68), 1088, none, .ex (.t 65) 0⟩,
    ⟨(some 69), 1104, none, .ex (.t 65) 1⟩,
    ⟨(some 70), 1120, none, .ex (.t 65) 2⟩,
    ⟨(some 16), 256, none, .mv (.t 68)⟩,
    ⟨(some 17), 272, none, .mv (.t 69)⟩,
    ⟨(some 18), 288, none, .mv (.t 70)⟩])
  (.seq (.reg [⟨(some 71), 1136, none, .mv (.t 15)⟩,
    ⟨(some 72), 1152, none, .bi false .eql (.t 71) (.c (.int .i64 0))⟩,
    ⟨(some 73), 1168, none, .mv (.t 72)⟩,
    ⟨(some 74), 1184, (some (73, true)), .mv (.t 18)⟩,
    ⟨(some 75), 1200, (some (73, true)), .bi false .eql (.t 74) (.c (.int .i64 0))⟩,
    ⟨(some 76), 1216, none, .pick (.t 73) (.t 75) (.c (.bool false))⟩,
    ⟨(some 77), 1232, none, .mv (.t 76)⟩,
    ⟨(some 78), 1248, (some (77, true)), .mv (.t 17)⟩,
    ⟨(some 79), 1264, (some (77, true)), .bi false .eql (.t 78) (.c (.int .i64 0))⟩,
    ⟨(some 80), 1280, none, .pick (.t 77) (.t 79) (.c (.bool false))⟩,
    ⟨(some 81), 1296, none, .mv (.t 80)⟩,
    ⟨(some 82), 1312, (some (81, true)), .mv (.t 11)⟩,
    ⟨(some 83), 1328, (some (81, true)), .mv (.t 16)⟩,
    ⟨(some 84), 1344, (some (81, true)), .call (.c (.fn (.func 10) [] [])) [(.t 82), (.t 83)]⟩,
    ⟨(some 85), 1360, none, .pick (.t 81) (.t 84) (.c (.bool false))⟩,
    ⟨(some 86), 1376, none, .mv (.t 85)⟩,
    ⟨(some 87), 1392, (some (86, true)), .call (.c (.fn (.func 5) [] [])) []⟩,
    ⟨(some 88), 1408, none, .pick (.t 86) (.t 87) (.c (.bool false))⟩,
    ⟨(some 4), 64, none, .mv (.t 88)⟩])
  .ret)))))))))))
theorem fits3 : fits Tryd.prog false Tryd.f3 2 89 [(4, none)] = some c3.er := by kernel_rfl
set_option maxRecDepth 100000 in
set_option maxHeartbeats 8000000 in
theorem call3 (l : List Int) (s : List UInt8) : PureCall Tryd.prog 3 [.sl 1 1 l.length (fl eInt l), .str s] [] ⟨.bool true, [], []⟩ := by
  refine pure_call mix Tryd.func3 fits3 rfl ?_
  conv => whnf
  refine ⟨?_, fun hc => ?_, fun hc => ?_⟩
  · exact g0
  · conv => whnf
    refine ⟨_, fun _ => call5, ?_⟩
    conv => whnf
    exact ret
  simp only [bp] at hc
  have hs : s.length ≤ 3000 := by omega
  clear hc
  conv => whnf
  refine ⟨_, fun _ => call_new 1 l, ?_⟩
  conv => whnf
  refine ⟨_, fun _ => call6 ⟨l, 0⟩ (by dsimp only; omega), ?_⟩
  obtain ⟨hA1, hA2, hA3⟩ := made_ok ⟨l, 0⟩
  generalize (condsF ⟨l, 0⟩).1 = A at hA1 hA2 hA3 ⊢
  have hAl := printC_len hA2
  have hAp := parse_print hA1
  conv => whnf
  refine ⟨_, fun _ => call8 _ A hA1, ?_⟩
  have h1 := call9 (printC A) (by omega)
  rw [hAp] at h1
  conv => whnf
  refine ⟨_, fun _ => h1, ?_⟩
  have h2 := call10 1 1 A A (by omega)
  rw [decide_eq_true (p := A = A) rfl] at h2
  conv => whnf
  refine ⟨_, fun _ => h2, ?_⟩
  conv => whnf
  refine ⟨?_, fun hc => Bool.noConfusion (show false = true from hc), fun hc => ?_⟩
  · exact g0
  conv => whnf
  refine ⟨_, fun _ => call9 s (by omega), ?_⟩
  have hok := parse_ok (s := s)
  obtain ⟨⟨a, n, e⟩, hP⟩ : ∃ P, P = parseG s := ⟨_, rfl⟩
  rw [← hP] at hok ⊢
  dsimp only at hok ⊢
  conv => whnf
  refine ⟨?_, fun hc => ?_, fun hc => ?_⟩
  · exact g0
  · conv => whnf
    refine ⟨_, fun _ => call5, ?_⟩
    conv => whnf
    exact ret
  simp only [bp] at hc
  obtain ⟨hB1, -⟩ := hok hc
  obtain ⟨hB3, hB2⟩ := limC_ok hB1
  have hBl := printC_len hB2
  have hBp := parse_print hB1
  conv => whnf
  refine ⟨_, fun _ => call8 _ a hB1, ?_⟩
  have h3 := call9 (printC a) (by omega)
  rw [hBp] at h3
  conv => whnf
  refine ⟨_, fun _ => h3, ?_⟩
  have h4 := call10 1 1 a a (by omega)
  rw [decide_eq_true (p := a = a) rfl] at h4
  conv => whnf
  refine ⟨_, fun _ => h4, ?_⟩
  conv => whnf
  refine ⟨_, fun _ => call5, ?_⟩
  conv => whnf
  exact ret
end Pv
end Go.Proofs.YtknidebojogodaaDoor
/- ARGUMENTS AS THEY COME IN: what a readable argument stands for. -/
set_option linter.unusedSimpArgs false
set_option linter.unusedVariables false
namespace Go.Proofs.YtknidebojogodaaDoor
namespace Pv
open Go.RowKit Go.ChangeShapes
inductive Sh where
  | int (k : IntKind)
  | bool
  | str
  | sl (shs : List Sh)
  deriving Inhabited
inductive ShR : Sh → PV → Prop where
  | int (k : IntKind) (n : Int) (h : inR k n) : ShR (.int k) (.int k n)
  | bool (b : Bool) : ShR .bool (.bool b)
  | str (s : List UInt8) (h : s.length ≤ maxLen) : ShR .str (.str s)
  | sl (shs : List Sh) (n : Nat) (f : Nat → List PV) (hn : n ≤ maxLen) (h1 : ∀ i, i < n → (f i).length = shs.length)
      (h2 : ∀ (i j : Nat) (s : Sh) (p : PV), i < n → shs[j]? = some s → (f i)[j]? = some p → ShR s p) : ShR (.sl shs) (.sl 1 shs.length n f)
def ShL (shs : List Sh) (ps : List PV) : Prop := ps.length = shs.length ∧ ∀ (j : Nat) (s : Sh) (p : PV), shs[j]? = some s → ps[j]? = some p → ShR s p
def fieldSh (sh : TypeId → Option (List Sh)) (P : Program) : Nat → List Field → Option (List Sh)
  | _, [] => some []
  | off, f :: fs => if f.offset = off then match sh f.type with
      | some s => if s.length = P.cellsOf f.type then match fieldSh sh P (off + s.length) fs with
          | some r => some (s ++ r)
          | none => none
        else none
      | none => none
    else none
def shp (P : Program) : Nat → TypeId → Option (List Sh)
  | 0, _ => none
  | m + 1, t => match P.underlying t with
    | some .bool => some [.bool]
    | some (.int k) => some [.int k]
    | some .string => some [.str]
    | some (.slice e) => match shp P m e with
      | some s => if s.length = P.cellsOf e ∧ 0 < s.length then some [.sl s] else none
      | none => none
    | some (.struct fs) => match fieldSh (shp P m) P 0 fs.toList with
      | some s => if s.length = P.cellsOf t then some s else none
      | none => none
    | _ => none
theorem ShR.flat {s : Sh} {p : PV} (h : ShR s p) : p.flat = true := by cases h <;> rfl
theorem ShR.mark1 {s : Sh} {p : PV} (h : ShR s p) : p.mark 1 = p := by cases h <;> rfl
theorem ShL.append {a b : List Sh} {x y : List PV} (h : ShL a x) (h' : ShL b y) : ShL (a ++ b) (x ++ y) := by
  refine ⟨by simp [h.1, h'.1], fun j s p hs hp => ?_⟩
  rw [List.getElem?_append] at hs hp
  rw [h.1] at hp
  split at hs
  · rename_i hj; rw [if_pos hj] at hp; exact h.2 j s p hs hp
  · rename_i hj; rw [if_neg hj] at hp; exact h'.2 _ s p hs hp
section
variable {H : Type} {enc : TypeId × Value → H} {P : Program} {w : World} {sp : Nat → Bool} {held : Bool} {X : Cx} {γ : Gh}
theorem trod_fields {m n : Nat} {cs : List Value} {xs : List (DataW H × List MemPlace)}
    (ih : ∀ (t : TypeId) (cs : List Value) (x : DataW H × List MemPlace) (shs : List Sh), shp P m t = some shs → DataW.trod enc P w 0 sp held n t cs = some x → ∃ ps, ShL shs ps ∧ RepL X γ w ps cs ∧ ∀ u ∈ cs, u.oneCell' = true) :
    ∀ (fs : List Field) (off k : Nat) (shs : List Sh), fieldSh (shp P m) P off fs = some shs → off + shs.length = cs.length → (∀ i f, fs[i]? = some f → DataW.trod enc P w 0 sp held n f.type ((cs.drop f.offset).take (P.cellsOf f.type)) = xs[k + i]?) → k + fs.length = xs.length →
      ∃ ps, ShL shs ps ∧ RepL X γ w ps (cs.drop off) ∧ ∀ u ∈ cs.drop off, u.oneCell' = true
  | [], off, k, shs, h, hl, hx, hk => by
    simp only [fieldSh, Option.some.injEq] at h; subst h
    have e : cs.drop off = [] := List.drop_eq_nil_of_le (by simpa using hl.symm ▸ Nat.le_refl _)
    rw [e]
    exact ⟨[], ⟨rfl, fun j s p hs => by simp at hs⟩, RepL.nil_, by simp⟩
  | f :: fs, off, k, shs, h, hl, hx, hk => by
    simp only [fieldSh] at h
    split at h
    · rename_i hoff
      split at h
      · rename_i s hs
        split at h
        · rename_i hsl
          split at h
          · rename_i r hr
            injection h with h; subst h
            simp only [List.length_append] at hl
            obtain ⟨ps', h1, h2, h3⟩ := trod_fields (cs := cs) ih fs (off + s.length) (k + 1) r hr (by omega) (fun i f' hf => by
              have := hx (i + 1) f' (by simpa using hf)
              rw [show k + (i + 1) = k + 1 + i from by omega] at this; exact this) (by simp only [List.length_cons] at hk; omega)
            have h0 := hx 0 f rfl
            have hk0 : k + 0 < xs.length := by simp only [List.length_cons] at hk; omega
            rw [List.getElem?_eq_getElem hk0] at h0
            obtain ⟨ps, g1, g2, g3⟩ := ih _ _ _ _ hs h0
            rw [hoff, ← hsl] at g2 g3
            have e : cs.drop off = (cs.drop off).take s.length ++ cs.drop (off + s.length) := by
              rw [← List.drop_drop, List.take_append_drop]
            refine ⟨ps ++ ps', g1.append h1, ?_, ?_⟩
            · rw [e]; exact g2.append h2
            · rw [e]
              intro u hu
              rcases List.mem_append.1 hu with hu | hu
              · exact g3 u hu
              · exact h3 u hu
          · cases h
        · cases h
      · cases h
    · cases h
theorem trod_rep (hX : ∀ b, b < w.heap.size → mayLie X γ 1 b) : ∀ (m fuel : Nat) (t : TypeId) (cs : List Value) (x : DataW H × List MemPlace) (shs : List Sh), shp P m t = some shs → DataW.trod enc P w 0 sp held fuel t cs = some x →
    ∃ ps, ShL shs ps ∧ RepL X γ w ps cs ∧ ∀ u ∈ cs, u.oneCell' = true := by
  have one : ∀ (s : Sh) (p : PV) (v : Value), ShR s p → Rep X γ w p v → v.oneCell' = true → ∃ ps, ShL [s] ps ∧ RepL X γ w ps [v] ∧ ∀ u ∈ [v], u.oneCell' = true := fun s p v h1 h2 h3 =>
    ⟨[p], ⟨rfl, fun j s' p' hs hp => by
      cases j with
      | zero => simp only [List.getElem?_cons_zero, Option.some.injEq] at hs hp; subst hs; subst hp; exact h1
      | succ j => simp at hs⟩, RepL.cons_ h2 RepL.nil_, by simpa using h3⟩
  intro m
  induction m with
  | zero => intro fuel t cs x shs h; simp [shp] at h
  | succ m ih =>
    intro fuel t cs x shs h hd
    simp only [shp] at h
    split at h
    · rename_i ht
      injection h with h; subst h
      obtain ⟨b, rfl, _⟩ := DataW.trod_bool ht hd
      exact one _ _ _ (.bool b) (.bool b) rfl
    · rename_i k ht
      injection h with h; subst h
      obtain ⟨n, rfl, _, hw⟩ := DataW.trod_int ht hd
      simp only [Lit.wf, Bool.and_eq_true, decide_eq_true_eq] at hw
      exact one _ _ _ (.int k n hw) (.int k n) rfl
    · rename_i ht
      injection h with h; subst h
      obtain ⟨s, rfl, _, hw⟩ := DataW.trod_string ht hd
      have e : s = ⟨s.data.toList.toArray⟩ := by cases s; simp
      refine one _ (.str s.data.toList) _ (.str _ (by rw [Array.length_toList]; exact hw)) ?_ rfl
      have := Rep.str (X := X) (γ := γ) (w := w) s.data.toList
      rwa [← e] at this
    · rename_i e ht
      split at h
      · rename_i s hs
        split at h
        · rename_i hc
          obtain ⟨hsl, hpos⟩ := hc
          injection h with h; subst h
          rcases DataW.trod_slice ht hd with ⟨rfl, _⟩ | ⟨a, len, cap, elems, rest, n, hf, rfl, _, hb, hlc, hcm, hel, helem, _, _⟩
          · refine one _ (.sl 1 s.length 0 (fun _ => [])) _ (.sl s 0 _ (Nat.zero_le _) (fun i hi => by omega) (fun i j s p hi => by omega)) ?_ rfl
            exact .sl 1 _ 0 _ none 0 (fun _ => undef) (Nat.le_refl _) (fun i hi => by omega) (fun i hi => by omega) (fun hi => by omega) (fun i j c hi => by omega)
          · have hex : ∀ i, ∃ ps, i < len → ShL s ps ∧ ∃ cs', w.cells? 0 (a.add (i * P.cellsOf e)) (P.cellsOf e) = some cs' ∧ RepL X γ w ps cs' := fun i => by
              by_cases hi : i < len
              · have h1 := helem i hi
                rw [List.getElem?_eq_getElem (by omega)] at h1
                obtain ⟨cs', h2, h3⟩ := Option.bind_eq_some_iff.1 h1
                obtain ⟨ps, g1, g2, _⟩ := ih _ _ _ _ _ hs h3
                exact ⟨ps, fun _ => ⟨g1, cs', h2, g2⟩⟩
              · exact ⟨[], fun h => absurd h hi⟩
            let f : Nat → List PV := fun i => Classical.choose (hex i)
            have hf' : ∀ i, i < len → ShL s (f i) ∧ ∃ cs', w.cells? 0 (a.add (i * P.cellsOf e)) (P.cellsOf e) = some cs' ∧ RepL X γ w (f i) cs' := fun i => Classical.choose_spec (hex i)
            have hcell : ∀ i j, i < len → j < s.length → ∃ u p, w.cell? (a.add (i * s.length + j)) = some u ∧ (f i)[j]? = some p ∧ Rep X γ w p u := fun i j hi hj => by
              obtain ⟨g1, cs', g2, g3⟩ := hf' i hi
              obtain ⟨_, k2, k3⟩ := World.cells?_some g2
              have hj' : j < cs'.length := by rw [k2, ← hsl]; exact hj
              have hk := k3 j (by rw [← hsl]; exact hj)
              rw [List.getElem?_eq_getElem hj', add_add_, ← hsl] at hk
              have hpj : j < (f i).length := by rw [g1.1]; exact hj
              exact ⟨_, _, hk, List.getElem?_eq_getElem hpj, g3.2 j _ _ (List.getElem?_eq_getElem hpj) (List.getElem?_eq_getElem hj')⟩
            refine one _ (.sl 1 s.length len f) _ (.sl s len f (Nat.le_trans hlc hcm) (fun i hi => (hf' i hi).1.1) (fun i j s' p hi hs' hp => (hf' i hi).1.2 j s' p hs' hp)) ?_ rfl
            have hsh : ∀ i, i < len → ∀ c ∈ f i, ∃ s', ShR s' c := fun i hi c hc => by
              obtain ⟨j, hj⟩ := List.getElem?_of_mem hc
              have hlt := (List.getElem?_eq_some_iff.1 hj).1
              have hlt2 : j < s.length := by rw [← (hf' i hi).1.1]; exact hlt
              exact ⟨_, (hf' i hi).1.2 j _ _ (List.getElem?_eq_getElem hlt2) hj⟩
            refine .sl 1 s.length len f (some a) cap (fun k => (w.cell? (a.add k)).getD undef) hlc (fun i hi => (hf' i hi).1.1) (fun i hi c hc => by obtain ⟨s', h⟩ := hsh i hi c hc; exact h.flat) (fun hn => ?_) (fun i j c hi hc => ?_)
            · obtain ⟨u, p, h1, _, _⟩ := hcell 0 0 hn hpos
              have hblk : a.block < w.heap.size := by
                obtain ⟨_, cs', g2, _⟩ := hf' 0 hn
                have := World.cells?_block g2 (by omega)
                have e : (a.add (0 * P.cellsOf e)).block = a.block := by unfold Addr.add; split <;> rfl
                rwa [e] at this
              refine ⟨a, rfl, hX _ hblk, hblk, fun k hk => ?_⟩
              have hk1 : k / s.length < len := by rw [Nat.div_lt_iff_lt_mul hpos]; exact hk
              obtain ⟨u, p, h1, _, _⟩ := hcell (k / s.length) (k % s.length) hk1 (Nat.mod_lt _ hpos)
              rw [Nat.mul_comm, Nat.div_add_mod] at h1
              rw [h1]; rfl
            · have hj : j < s.length := by rw [← (hf' i hi).1.1]; exact (List.getElem?_eq_some_iff.1 hc).1
              obtain ⟨u, p, h1, h2, h3⟩ := hcell i j hi hj
              rw [h2] at hc; injection hc with hc; subst hc
              obtain ⟨s', h⟩ := hsh i hi p (List.mem_of_getElem? h2)
              rw [h.mark1, h1]; exact h3
        · cases h
      · cases h
    · rename_i fs ht
      split at h
      · rename_i s hs
        split at h
        · rename_i hsl
          injection h with h; subst h
          obtain ⟨xs, n, rfl, _, hcl, hxl, hx⟩ := DataW.trod_struct ht hd
          obtain ⟨ps, h1, h2, h3⟩ := trod_fields (cs := cs) (xs := xs) (ih n) fs.toList 0 0 s hs (by omega) (fun i f hf => by rw [Nat.zero_add]; exact hx i f (by simpa using hf)) (by simpa using hxl.symm)
          exact ⟨ps, h1, by simpa using h2, by simpa using h3⟩
        · cases h
      · cases h
    · cases h
end
end Pv
end Go.Proofs.YtknidebojogodaaDoor
/- A LAW's ROW, FROM ITS FUNCTION's CONTRACT. -/
set_option linter.unusedSimpArgs false
set_option linter.unusedVariables false
namespace Go.Proofs.YtknidebojogodaaDoor
namespace Pv
open Go.RowKit Go.ChangeShapes
section
variable {H : Type} {enc : TypeId × Value → H} {P : Program} {w : World} {sp : Nat → Bool} {held : Bool}
def cx0 (w : World) : Cx := ⟨w.heap.size, fun b => b < w.heap.size, fun _ => False, 0, fun _ => none⟩
def gh0 : Gh := fun _ => none
theorem gh0_own (b : Nat) : ¬ gh0.own b := by rintro ⟨r, ge, h, _⟩; cases h
theorem lie0 (b : Nat) (hb : b < w.heap.size) : mayLie (cx0 w) gh0 1 b := ⟨gh0_own b, .inr (.inl ⟨Nat.le_refl _, hb⟩)⟩
def GlobOK (w : World) : Prop := ∀ b p, glob b = some p → ∃ o, w.heap[b]? = some o ∧ p o
theorem globOK_none (h : ∀ b, glob b = none) : GlobOK w := fun b p hb => by rw [h b] at hb; cases hb
theorem st0 (hgl : GlobOK w) : RepSt (cx0 w) gh0 w (fun r => ([] : List SE)[r]?) :=
  ⟨fun r => by simp [gh0], fun r ge e h => (by cases h), fun r r' ge ge' b h => (by cases h), fun b hb => absurd hb (gh0_own b), fun b hb => absurd hb (gh0_own b), fun b p hb => ⟨hgl b p hb, gh0_own b, by
    obtain ⟨o, h1, _⟩ := hgl b p hb
    exact (Array.getElem?_eq_some_iff.1 h1).1⟩⟩
theorem law_calls (hgl : GlobOK w) {f : FuncId} {args : List PV} {vals : List Value} (h : PureCall P f args [] ⟨.bool true, [], []⟩) (hr : RepL (cx0 w) gh0 w args vals) :
    Calls P f vals.toArray w fun e w' => e = .returned (.bool true) ∧ Below w.heap.size w w' := by
  have hst : RepSt ⟨w.heap.size, (cx0 w).as, (cx0 w).ls, ([] : List SE).length, gh0⟩ gh0 w (fun r => ([] : List SE)[r]?) :=
    st0 (w := w) hgl
  refine (h.2 w gh0 (cx0 w).as (cx0 w).ls vals hst (fun b hb => hb.elim (fun h => h) (fun h => h.elim)) hr).mono ?_
  rintro e w' ⟨v, γ', rfl, hv, _, hk, _, _⟩
  cases hv.bool_inv
  exact ⟨rfl, hk.os, hk.tape, hk.output, hk.size, fun k hk' => hk.block k hk' (gh0_own k)⟩
theorem arg_one {m : Nat} {t : TypeId} {s : Sh} {v : Value} {d : DataW H} {ps : List MemPlace} (hs : shp P m t = some [s]) (hv : v.oneCell' = true) (h : DataW.Trod enc P w 0 sp held t v d ps) : ∃ p, ShR s p ∧ Rep (cx0 w) gh0 w p v := by
  obtain ⟨fuel, hf⟩ := h
  rw [cells_one hv] at hf
  obtain ⟨ps, h1, h2, _⟩ := trod_rep (X := cx0 w) (γ := gh0) lie0 _ _ _ _ _ _ hs hf
  obtain ⟨h1, h1'⟩ := h1
  match ps, h1 with
  | [p], _ =>
    obtain ⟨u, us, hu, hr, _⟩ := h2.cons_inv
    simp only [List.cons.injEq] at hu
    exact ⟨p, h1' 0 s p rfl rfl, by rw [hu.1]; exact hr⟩
theorem arg_agg {m : Nat} {t : TypeId} {shs : List Sh} {cs : Array Value} {d : DataW H} {ps : List MemPlace} (hs : shp P m t = some shs) (h : DataW.Trod enc P w 0 sp held t (.agg cs) d ps) : ∃ qs, ShL shs qs ∧ Rep (cx0 w) gh0 w (.agg qs) (.agg cs) := by
  obtain ⟨fuel, hf⟩ := h
  obtain ⟨qs, h1, h2, h3⟩ := trod_rep (X := cx0 w) (γ := gh0) lie0 _ _ _ _ _ _ hs hf
  have := Rep.agg qs cs.toList h2.1 h3 h2.2
  exact ⟨qs, h1, by simpa using this⟩
theorem Rep.le0 (hgl : GlobOK w) {p q : PV} {v : Value} (h : Rep (cx0 w) gh0 w p v) (hl : PLe (fun r => ([] : List SE)[r]?) (fun _ => true) p q) : Rep (cx0 w) gh0 w q v :=
  h.le (γk := gh0) (st0 hgl) (fun r ge b τ e z n f hr => (by cases hr)) (fun r ge hr _ => hr) (fun r ge hr => ⟨hr, rfl⟩) q hl
theorem sh_list (hgl : GlobOK w) {α : Type} [Inhabited α] (e : α → List PV) (Q : α → Prop) {shs : List Sh} (hdec : ∀ ps, ShL shs ps → ∃ x, ps = e x ∧ Q x) {p : PV} (h : ShR (.sl shs) p) {v : Value} (hr : Rep (cx0 w) gh0 w p v) :
    ∃ l : List α, Rep (cx0 w) gh0 w (.sl 1 shs.length l.length (fl e l)) v ∧ l.length ≤ maxLen ∧ ∀ x ∈ l, Q x := by
  cases h with
  | sl _ n f hn h1 h2 =>
    have hx : ∀ i, ∃ x, i < n → f i = e x ∧ Q x := fun i => by
      by_cases hi : i < n
      · obtain ⟨x, hx⟩ := hdec (f i) ⟨h1 i hi, fun j s p hs hp => h2 i j s p hi hs hp⟩
        exact ⟨x, fun _ => hx⟩
      · exact ⟨default, fun h => absurd h hi⟩
    let g : Nat → α := fun i => Classical.choose (hx i)
    have hg : ∀ i, i < n → f i = e (g i) ∧ Q (g i) := fun i => Classical.choose_spec (hx i)
    refine ⟨(List.range n).map g, hr.le0 hgl ?_, by simpa using hn, fun x hm => ?_⟩
    · refine ⟨Nat.le_refl _, rfl, by simp, fun i hi => ?_⟩
      rw [(hg i hi).1]
      simp [fl, List.getD_eq_getElem?_getD, hi]
    · obtain ⟨i, hi, rfl⟩ := List.mem_map.1 hm
      exact (hg i (List.mem_range.1 hi)).2
theorem sh_int {k : IntKind} {p : PV} (h : ShR (.int k) p) : ∃ n, p = .int k n ∧ inR k n := by cases h with | int _ n h => exact ⟨n, rfl, h⟩
theorem sh_bool {p : PV} (h : ShR .bool p) : ∃ b, p = .bool b := by cases h with | bool b => exact ⟨b, rfl⟩
theorem sh_str {p : PV} (h : ShR .str p) : ∃ s, p = .str s ∧ s.length ≤ maxLen := by cases h with | str s h => exact ⟨s, rfl, h⟩
theorem shl_cons {s : Sh} {ss : List Sh} {ps : List PV} (h : ShL (s :: ss) ps) : ∃ p qs, ps = p :: qs ∧ ShR s p ∧ ShL ss qs := by
  obtain ⟨h1, h2⟩ := h
  match ps, h1 with
  | p :: qs, h1 => exact ⟨p, qs, rfl, h2 0 s p rfl rfl, by simpa using h1, fun j s' p' hs hp => h2 (j + 1) s' p' (by simpa using hs) (by simpa using hp)⟩
theorem shl_nil {ps : List PV} (h : ShL [] ps) : ps = [] := List.eq_nil_of_length_eq_zero h.1
end
end Pv
end Go.Proofs.YtknidebojogodaaDoor
/- A LAW's ROW, FROM ITS FUNCTION's CONTRACT: how long slices are that came in. -/
set_option linter.unusedSimpArgs false
set_option linter.unusedVariables false
namespace Go.Proofs.YtknidebojogodaaDoor
namespace Pv
open Go.RowKit Go.ChangeShapes
section
variable {H : Type} {enc : TypeId × Value → H} {P : Program} {w : World} {sp : Nat → Bool} {held : Bool}
theorem sized_len {ts : List TypeId} {ds : List (DataW H)} (hz : (DataW.weightsEach P ts ds).all (· ≤ reachBytes) = true) {j : Nat} {t e : TypeId} {d : DataW H} {ps : List MemPlace} {a : Option Addr} {len cap : Nat}
    (ht : ts[j]? = some t) (hd : ds[j]? = some d) (hu : P.underlying t = some (.slice e)) (h : DataW.Trod enc P w 0 sp held t (.slice a len cap) d ps)
    (hb : 0 < P.bytesOf e) {X : Cx} {γ : Gh} {τ z n : Nat} {f : Nat → List PV} (hr : Rep X γ w (.sl τ z n f) (.slice a len cap)) : n ≤ 140737488351232 := by
  have hn : n = len := by cases hr; rfl
  subst hn
  obtain ⟨fuel, hf⟩ := h
  rcases DataW.trod_slice hu hf with ⟨h1, _⟩ | ⟨a', len', cap', elems, rest, m, _, h1, h2, _, _, _, h3, _⟩
  · have h1' : Value.slice a n cap = .slice none 0 0 := by simpa [Value.cells] using h1
    injection h1' with _ h4 _
    omega
  · have h1' : Value.slice a n cap = .slice (some a') len' cap' := by simpa [Value.cells] using h1
    injection h1' with _ h4 _
    injection h2 with h5 _
    subst h5
    have := sized_slice hz ht hd hu
    simp only [List.length_map] at this
    have h6 : n * 1 ≤ (elems.length + rest.length) * P.bytesOf e := Nat.mul_le_mul (by omega) hb
    have h7 : reachBytes = 140737488351232 := rfl
    omega
end
end Pv
end Go.Proofs.YtknidebojogodaaDoor
set_option linter.unusedSimpArgs false
set_option linter.unusedVariables false
namespace Go.Proofs.YtknidebojogodaaDoor
namespace Pv
open Go.RowKit Go.ChangeShapes
section
variable {H : Type} {enc : TypeId × Value → H} {P : Program} {w : World} {sp : Nat → Bool} {held : Bool}
def eSl {α : Type} [Inhabited α] (k : Nat) (e : α → List PV) (m : List α) : List PV := [.sl 1 k m.length (fl e m)]
theorem sh_list2 (hgl : GlobOK w) {α : Type} [Inhabited α] (e : α → List PV) (Q : α → Prop) {shs : List Sh} (hdec : ∀ ps, ShL shs ps → ∃ x, ps = e x ∧ Q x) {p : PV} (h : ShR (.sl [.sl shs]) p) {v : Value} (hr : Rep (cx0 w) gh0 w p v) :
    ∃ G : List (List α), Rep (cx0 w) gh0 w (.sl 1 1 G.length (fl (eSl shs.length e) G)) v ∧ G.length ≤ maxLen ∧ ∀ m ∈ G, ∀ x ∈ m, Q x := by
  cases h with
  | sl _ n f hn h1 h2 =>
    have hx : ∀ i, ∃ m : List α, i < n → ∃ f', f i = [.sl 1 shs.length m.length f'] ∧ RowEq m.length f' (fl e m) ∧ ∀ x ∈ m, Q x := fun i => by
      by_cases hi : i < n
      · have hl := h1 i hi
        match hf : f i, hl with
        | [c], _ =>
          have hc := h2 i 0 (.sl shs) c hi rfl (by rw [hf]; rfl)
          cases hc with
          | sl _ n' f' hn' g1 g2 =>
            have hy : ∀ i, ∃ x, i < n' → f' i = e x ∧ Q x := fun j => by
              by_cases hj : j < n'
              · obtain ⟨x, hx⟩ := hdec (f' j) ⟨g1 j hj, fun k s p hs hp => g2 j k s p hj hs hp⟩
                exact ⟨x, fun _ => hx⟩
              · exact ⟨default, fun h => absurd h hj⟩
            refine ⟨(List.range n').map fun j => Classical.choose (hy j), fun _ => ⟨f', by simp, fun j hj => ?_, fun x hm => ?_⟩⟩
            · simp only [List.length_map, List.length_range] at hj
              rw [(Classical.choose_spec (hy j) hj).1]
              simp [fl, List.getD_eq_getElem?_getD, hj]
            · obtain ⟨j, hj, rfl⟩ := List.mem_map.1 hm
              exact (Classical.choose_spec (hy j) (List.mem_range.1 hj)).2
      · exact ⟨[], fun h => absurd h hi⟩
    let g : Nat → List α := fun i => Classical.choose (hx i)
    have hg : ∀ i, i < n → ∃ f', f i = [.sl 1 shs.length (g i).length f'] ∧ RowEq (g i).length f' (fl e (g i)) ∧ ∀ x ∈ g i, Q x := fun i => Classical.choose_spec (hx i)
    refine ⟨(List.range n).map g, ?_, by simpa using hn, fun m hm => ?_⟩
    · have hget : ∀ i, i < n → fl (eSl shs.length e) ((List.range n).map g) i = [.sl 1 shs.length (g i).length (fl e (g i))] := fun i hi => by
        simp [fl, eSl, List.getD_eq_getElem?_getD, hi]
      have hlen : ((List.range n).map g).length = n := by simp
      cases hr with
      | sl _ _ _ _ ad cap vs hcap hz hf hb hh =>
        rw [hlen]
        refine .sl 1 1 n _ ad cap vs hcap (fun i hi => by rw [hget i hi]; rfl) (fun i hi c hc => ?_) hb (fun i j c hi hc => ?_)
        · rw [hget i hi] at hc
          rw [List.mem_singleton.1 hc]; rfl
        · rw [hget i hi] at hc
          obtain ⟨f', e1, e2, _⟩ := hg i hi
          cases j with
          | zero =>
            simp only [List.getElem?_cons_zero, Option.some.injEq] at hc
            subst hc
            have := hh i 0 _ hi (by rw [e1]; rfl)
            exact this.le0 hgl ⟨Nat.le_refl _, rfl, rfl, e2⟩
          | succ j => simp at hc
    · obtain ⟨i, hi, rfl⟩ := List.mem_map.1 hm
      obtain ⟨_, _, _, h3⟩ := hg i (List.mem_range.1 hi)
      exact h3
theorem weightsAll_mem {e : TypeId} : ∀ {l : List (DataW H)} {i : Nat} {d : DataW H}, l[i]? = some d → ∀ n ∈ d.weights P e, n ∈ DataW.weightsAll P e l
  | [], i, d, h, n, hn => by simp at h
  | x :: l, 0, d, h, n, hn => by
    simp only [List.getElem?_cons_zero, Option.some.injEq] at h
    subst h
    simp only [DataW.weightsAll, List.mem_append]; exact .inl hn
  | x :: l, i + 1, d, h, n, hn => by
    simp only [DataW.weightsAll, List.mem_append]; exact .inr (weightsAll_mem (by simpa using h) n hn)
theorem sized_len2 {ts : List TypeId} {ds : List (DataW H)} (hz : (DataW.weightsEach P ts ds).all (· ≤ reachBytes) = true) {j : Nat} {t e e2 : TypeId} {d : DataW H} {ps : List MemPlace} {a : Option Addr} {len cap : Nat}
    (ht : ts[j]? = some t) (hd : ds[j]? = some d) (hu : P.underlying t = some (.slice e)) (hu2 : P.underlying e = some (.slice e2)) (hce : P.cellsOf e = 1) (h : DataW.Trod enc P w 0 sp held t (.slice a len cap) d ps)
    {X : Cx} {γ : Gh} {τ n : Nat} {F : Nat → List PV} (hr : Rep X γ w (.sl τ 1 n F) (.slice a len cap)) {i τ' z' N : Nat} {f' : Nat → List PV} (hi : i < n) (hF : F i = [.sl τ' z' N f']) : N * P.bytesOf e2 ≤ 140737488351232 := by
  have hreach : reachBytes = 140737488351232 := rfl
  cases hr with
  | sl _ _ _ _ _ _ vs hcap hz' hf hb hh =>
  obtain ⟨a', rfl, _, _, hcell⟩ := hb (by omega)
  obtain ⟨fuel, hfu⟩ := h
  rcases DataW.trod_slice hu hfu with ⟨h1, _⟩ | ⟨a'', len', cap', elems, rest, m, _, h1, h2, _, _, _, h3, h4, _⟩
  · simp [Value.cells] at h1
  · have h1' : Value.slice (some a') len cap = .slice (some a'') len' cap' := by simpa [Value.cells] using h1
    injection h1' with h5 h6 h7
    injection h5 with h5
    subst h5; subst h6
    injection h2 with h8 _
    subst h8
    have h9 := h4 i hi
    rw [List.getElem?_eq_getElem (by omega), hce, Nat.mul_one] at h9
    obtain ⟨cs', g1, g2⟩ := Option.bind_eq_some_iff.1 h9
    obtain ⟨_, k2, k3⟩ := World.cells?_some g1
    have k4 := k3 0 (by omega)
    have hv := hcell i (by omega)
    rw [add_add_, Nat.add_zero, hv] at k4
    have hcs : cs' = [vs i] := by
      match cs', k2, k4 with
      | [x], _, k4 => simp only [List.getElem?_cons_zero, Option.some.injEq] at k4; rw [k4]
    have hrep := hh i 0 _ hi (by rw [hF]; rfl)
    rw [Nat.mul_one, Nat.add_zero] at hrep
    simp only [PV.mark] at hrep
    subst hcs
    generalize vs i = u at hrep g2
    cases hrep with
    | sl _ _ _ _ ad cap2 vs2 _ _ _ _ _ =>
    rcases DataW.trod_slice hu2 g2 with ⟨q1, _⟩ | ⟨b, len2, cap3, elems2, rest2, m2, _, q1, q2, _, _, _, q3, _⟩
    · have q1' : Value.slice ad N cap2 = .slice none 0 0 := by simpa using q1
      injection q1' with _ q5 _
      subst q5; rw [Nat.zero_mul]; exact Nat.zero_le _
    · have q1' : Value.slice ad N cap2 = .slice (some b) len2 cap3 := by simpa using q1
      injection q1' with _ q5 _
      subst q5
      have hmem : (elems2.map (·.1)).length * P.bytesOf e2 ≤ ((elems2.map (·.1)).length + (rest2.map (·.1)).length) * P.bytesOf e2 := Nat.mul_le_mul_right _ (by omega)
      have he : (elems.map (·.1))[i]? = some (DataW.slice (elems2.map (·.1)) (rest2.map (·.1))) := by
        rw [List.getElem?_map, List.getElem?_eq_getElem (by omega), Option.map_some, q2]
      have hw1 : ((elems2.map (·.1)).length + (rest2.map (·.1)).length) * P.bytesOf e2 ∈ DataW.weightsEach P ts ds := by
        refine DataW.weights_mem_each ht hd _ ?_
        simp only [DataW.weights, hu, List.mem_cons, List.mem_append]
        refine .inr (.inl (weightsAll_mem he _ ?_))
        simp [DataW.weights, hu2]
      have := List.all_eq_true.1 hz _ hw1
      have h10 : ((elems2.map (·.1)).length + (rest2.map (·.1)).length) * P.bytesOf e2 ≤ reachBytes := by simpa using this
      have h11 : (elems2.map (·.1)).length = N := by rw [List.length_map]; exact q3
      rw [h11] at hmem h10
      omega
end
end Pv
end Go.Proofs.YtknidebojogodaaDoor
