/- A LAW's ROW, FROM ITS FUNCTION's CONTRACT: slices of slices that came in. -/
import Derived.Test.YtknidebojogodaaGreatDoorZfg
import Derived.Test.YtknidebojogodaaGreatDoorZff
import Derived.ProofKit
import Derived.ChangeOld
import Derived.DataElems
import Derived.Below
import Derived.SizedLaws
/- LAW 13, THE WALKS: conditions as text. -/
set_option linter.unusedSimpArgs false
set_option linter.unusedVariables false
namespace Go.Proofs.YtknidebojogodaaGreatDoor
namespace Pv
def c25L1 : C := (.seq (.reg [⟨(some 12), 192, none, .bi false .lss (.t 11) (.t 10)⟩])
  (.seq (.cond (.t 12) .skip (.exit 0))
  (.seq (.block 1 (.seq (.reg [⟨(some 13), 208, none, .ia 1 (.t 9) (.t 11)⟩,
    ⟨(some 14), 224, none, .ld 1 false (.t 13)⟩,
    ⟨(some 6), 96, none, .mv (.t 14)⟩])
  (.reg [⟨(some 15), 240, none, .mv (.t 6)⟩,
    ⟨(some 16), 256, none, .call (.c (.fn (.func 27) [] [])) [(.t 15)]⟩,
    ⟨(some 17), 272, none, .bi false .add (.c (.str [32])) (.t 16)⟩,
    ⟨(some 18), 288, none, .call (.c (.fn (.func 26) [] [])) [(.t 2), (.t 17)]⟩])))
  (.reg [⟨(some 19), 304, none, .bi false .add (.t 11) (.c (.int .i64 1))⟩,
    ⟨(some 11), 176, none, .mv (.t 19)⟩]))))
def c25 : C := (.seq (.reg [⟨(some 7), 112, none, .mv (.t 0)⟩,
    ⟨(some 8), 128, none, .call (.c (.fn (.func 26) [] [])) [(.t 2), (.t 7)]⟩])
  (.seq (.reg [⟨(some 9), 144, none, .mv (.t 1)⟩,
    ⟨(some 10), 160, none, .len (.t 9)⟩,
    ⟨(some 11), 176, none, .mv (.c (.int .i64 0))⟩])
  (.block 0 (.loop c25L1))))
theorem fits25 : fits Tryz.prog false Tryz.f25 3 20 [] = some c25.er := by kernel_rfl
def c9L1 : C := (.seq (.reg [⟨(some 18), 288, none, .bi false .lss (.t 17) (.t 16)⟩])
  (.seq (.cond (.t 18) .skip (.exit 0))
  (.seq (.block 1 (.seq (.reg [⟨(some 19), 304, none, .ia 7 (.t 15) (.t 17)⟩,
    ⟨(some 20), 320, none, .ld 7 true (.t 19)⟩,
    ⟨(some 8), 128, none, .al [(.int .i64 0), (.int .i64 0), (.int .i64 0), (.int .i64 0), (.int .i64 0), (.int .i64 0), (.int .i64 0)]⟩,
    ⟨none, 0, none, .st 7 (.t 8) (.t 20)⟩])
  (.seq (.reg [⟨(some 21), 336, none, .mv (.t 6)⟩,
    ⟨(some 22), 352, none, .fa 0 (.t 8)⟩,
    ⟨(some 23), 368, none, .ld 1 false (.t 22)⟩,
    ⟨(some 24), 384, none, .bs 3 1 [(.t 23)]⟩,
    ⟨(some 25), 400, none, .call (.t 21) [(.c (.str [114, 97, 110, 107])), (.t 24)]⟩])
  (.cut (.seq (.drw [⟨(some 26), 416, none, .mv (.t 6)⟩,
    ⟨(some 27), 432, none, .fa 1 (.t 8)⟩,
    ⟨(some 28), 448, none, .ld 1 false (.t 27)⟩,
    ⟨(some 29), 464, none, .iaa 5 1 (.c (.rp 1 [(.str []), (.str [108, 101, 97, 115, 116]), (.str [109, 111, 115, 116]), (.str [117, 112]), (.str [100, 111, 119, 110])])) (.t 28)⟩,
    ⟨(some 30), 480, none, .ld 1 false (.t 29)⟩,
    ⟨(some 31), 496, none, .bi false .add (.c (.str [32])) (.t 30)⟩,
    ⟨(some 32), 512, none, .fa 2 (.t 8)⟩,
    ⟨(some 33), 528, none, .ld 1 false (.t 32)⟩,
    ⟨(some 34), 544, none, .bs 3 1 [(.t 33)]⟩,
    ⟨(some 35), 560, none, .call (.t 26) [(.t 31), (.t 34)]⟩]
    [(0, 1, 26), (0, 2, 26), (0, 3, 26), (0, 4, 26), (0, 5, 26), (0, 6, 26), (0, 7, 26), (0, 8, 26), (1, 6, 27), (1, 7, 27), (1, 8, 27), (2, 6, 28), (2, 7, 28), (2, 8, 28), (3, 6, 29), (3, 7, 29), (3, 8, 29), (4, 6, 30), (4, 7, 30), (4, 8, 30), (5, 6, 31), (5, 7, 31), (5, 8, 31)])
  (.cut (.seq (.seq (.reg [⟨(some 36), 576, none, .fa 3 (.t 8)⟩,
    ⟨(some 37), 592, none, .ld 2 true (.t 36)⟩,
    ⟨(some 38), 608, none, .bd [(.int .i64 0), (.int .i64 0)] [(1, 1, (.c (.int .i64 364)))]⟩,
    ⟨(some 39), 624, none, .eqa true [0, 0] (.t 37) (.t 38)⟩])
  (.cond (.t 39) (.reg [⟨(some 40), 640, none, .mv (.t 6)⟩,
    ⟨(some 41), 656, none, .fa 3 (.t 8)⟩,
    ⟨(some 42), 672, none, .fa 0 (.t 41)⟩,
    ⟨(some 43), 688, none, .ld 1 false (.t 42)⟩,
    ⟨(some 44), 704, none, .fa 3 (.t 8)⟩,
    ⟨(some 45), 720, none, .fa 1 (.t 44)⟩,
    ⟨(some 46), 736, none, .ld 1 false (.t 45)⟩,
    ⟨(some 47), 752, none, .bs 3 1 [(.t 43), (.t 46)]⟩,
    ⟨(some 48), 768, none, .call (.t 40) [(.c (.str [32, 100, 97, 121, 115])), (.t 47)]⟩]) .skip))
  (.cut (.seq (.seq (.reg [⟨(some 49), 784, none, .fa 5 (.t 8)⟩,
    ⟨(some 50), 800, none, .ld 1 false (.t 49)⟩,
    ⟨(some 51), 816, none, .bi false .neq (.t 50) (.c (.int .i64 0))⟩])
  (.cond (.t 51) (.reg [⟨(some 52), 832, none, .mv (.t 6)⟩,
    ⟨(some 53), 848, none, .fa 5 (.t 8)⟩,
    ⟨(some 54), 864, none, .ld 1 false (.t 53)⟩,
    ⟨(some 55), 880, none, .bs 3 1 [(.t 54)]⟩,
    ⟨(some 56), 896, none, .call (.t 52) [(.c (.str [32, 97, 98, 111, 118, 101])), (.t 55)]⟩]) .skip))
  (.cut (.seq (.seq (.reg [⟨(some 57), 912, none, .fa 6 (.t 8)⟩,
    ⟨(some 58), 928, none, .ld 1 false (.t 57)⟩,
    ⟨(some 59), 944, none, .bi false .neq (.t 58) (.c (.int .i64 16777216))⟩])
  (.cond (.t 59) (.reg [⟨(some 60), 960, none, .mv (.t 6)⟩,
    ⟨(some 61), 976, none, .fa 6 (.t 8)⟩,
    ⟨(some 62), 992, none, .ld 1 false (.t 61)⟩,
    ⟨(some 63), 1008, none, .bs 3 1 [(.t 62)]⟩,
    ⟨(some 64), 1024, none, .call (.t 60) [(.c (.str [32, 98, 101, 108, 111, 119])), (.t 63)]⟩]) .skip))
  (.reg [⟨(some 65), 1040, none, .call (.c (.fn (.func 28) [] [])) [(.t 5), (.c (.int .u8 10))]⟩]))))))))))))
  (.reg [⟨(some 66), 1056, none, .bi false .add (.t 17) (.c (.int .i64 1))⟩,
    ⟨(some 17), 272, none, .mv (.t 66)⟩]))))
def c9 : C := (.seq (.reg [⟨(some 2), 32, none, .mv (.c (.str []))⟩,
    ⟨(some 3), 48, none, .mv (.c (.int .i64 0))⟩])
  (.seq (.seq (.reg [⟨(some 9), 144, none, .mv (.t 0)⟩,
    ⟨(some 10), 160, none, .call (.c (.fn (.func 24) [] [])) [(.t 9)]⟩,
    ⟨(some 4), 64, none, .mv (.t 10)⟩])
  (.seq (.reg [⟨(some 11), 176, none, .mv (.t 4)⟩,
    ⟨(some 12), 192, none, .bi false .neq (.t 11) (.c (.int .i64 0))⟩])
  (.cond (.t 12) (.seq (.reg [⟨(some 13), 208, none, .mv (.t 4)⟩,
    ⟨(some 2), 32, none, .mv (.c (.str []))⟩,
    ⟨(some 3), 48, none, .mv (.t 13)⟩])
  .ret) .skip)))
  (.seq (.reg [⟨(some 5), 80, none, .alb 57 5⟩])
  (.seq (.reg [⟨(some 14), 224, none, .mf (.func 25) [] [(.t 5)]⟩,
    ⟨(some 6), 96, none, .mv (.t 14)⟩])
  (.seq (.seq (.reg [⟨(some 15), 240, none, .mv (.t 0)⟩,
    ⟨(some 16), 256, none, .len (.t 15)⟩,
    ⟨(some 17), 272, none, .mv (.c (.int .i64 0))⟩])
  (.block 0 (.loop c9L1)))
  (.seq (.reg [⟨(some 67), 1072, none, .call (.c (.fn (.func 29) [] [])) [(.t 5)]⟩,
    ⟨(some 2), 32, none, .mv (.t 67)⟩,
    ⟨(some 3), 48, none, .mv (.c (.int .i64 0))⟩])
  .ret))))))
theorem fits9 : fits Tryz.prog false Tryz.f9 1 68 [(2, none), (3, none)] = some c9.er := by kernel_rfl
def putT (w : List UInt8) (l : List Int) : List UInt8 := w ++ l.flatMap fun n => 32 :: Lib.itoa n
theorem putT_take {w : List UInt8} {l : List Int} {i : Nat} (h : i < l.length) : putT w (l.take (i + 1)) = putT w (l.take i) ++ (32 :: Lib.itoa (l.getD i default)) := by
  have : l.take (i + 1) = l.take i ++ [l.getD i default] := by rw [List.take_add_one, getD_some h]; rfl
  rw [this]; simp [putT]
def r64 (n : Int) : Prop := -9223372036854775808 ≤ n ∧ n ≤ 9223372036854775807
theorem putT_len (w : List UInt8) : ∀ (l : List Int), (∀ n ∈ l, r64 n) → (putT w l).length ≤ w.length + 22 * l.length
  | [], _ => by simp [putT]
  | n :: l, h => by
    have ih := putT_len w l fun m hm => h m (List.mem_cons_of_mem _ hm)
    have h1 := h n (List.mem_cons_self ..)
    have h2 := Lib.itoa_length_le n h1.1 h1.2
    simp only [putT, List.flatMap_cons, List.length_append, List.length_cons] at ih ⊢
    omega
set_option maxRecDepth 100000 in
theorem call25 (w : List UInt8) (l : List Int) (s : List UInt8) (hs : s.length ≤ 1000000000) (hw : w.length ≤ 100) (hl : l.length ≤ 4) (hr : ∀ n ∈ l, r64 n) :
    PureCall Tryz.prog 25 [.str w, .sl 2 1 l.length (fl eInt l), .pt 0 0 0] [.bld 57 5 s] ⟨.tup [], [.bld 57 5 (s ++ putT w l)], []⟩ := by
  refine pure_call mix Tryz.func25 fits25 rfl ?_
  conv => whnf
  refine ⟨_, fun _ => call26 s w (by omega), ?_⟩
  conv => whnf
  refine ⟨?_, ?_⟩
  · exact g0
  refine LSem.loop (n := 20) mix (α := Nat) (fun i => i ≤ l.length)
    (fun i => [(2, .pt 0 0 0), (9, .sl 2 1 l.length (fl eInt l)), (10, .int .i64 l.length), (11, .int .i64 i)])
    (fun i => [(0, .bld 57 5 (s ++ putT w (l.take i)))]) (fun i => l.length - i) 0 ?_ ?_ ?_
  · exact Nat.zero_le _
  · have q : s ++ w = s ++ putT w (l.take 0) := by simp [putT]
    refine ⟨rfl, rfl, ?_, ?_⟩ <;> exact ent
  · intro i hi
    have hj : ((i : Int)).toNat = i := by omega
    conv => whnf
    refine ⟨trivial, fun hc => ?_, fun hc => ?_⟩
    · replace hc := of_decide_eq_true hc
      have hlt : i < l.length := by
        have h : (i : Int) < l.length := hc
        omega
      have hn := hr _ (getD_mem hlt)
      have hT := putT_len w (l.take i) fun n hm => hr n (List.mem_of_mem_take hm)
      have hTl : (l.take i).length ≤ l.length := by rw [List.length_take]; omega
      have hst := putT_take (w := w) hlt
      have hx := Lib.itoa_length_le (l.getD i default) hn.1 hn.2
      conv => whnf
      rw [hj]
      generalize l.getD i default = n at hn hst hx ⊢
      refine ⟨_, fun _ => call27 n hn.1 hn.2, ?_⟩
      conv => whnf
      refine ⟨_, fun _ => call26 (s ++ putT w (l.take i)) ([32] ++ Lib.itoa n) (by simp only [List.length_append, List.length_cons, List.length_nil]; omega), ?_⟩
      have q : (s ++ putT w (l.take i)) ++ ([32] ++ Lib.itoa n) = s ++ putT w (l.take (i + 1)) := by rw [hst, List.append_assoc]; rfl
      rw [q]
      conv => whnf
      refine ⟨?_, i + 1, hlt, by omega, rfl, rfl, ?_, ?_⟩
      · exact g1
      · exact ent
      · exact ent
    · replace hc := of_decide_eq_false hc
      have hk : i = l.length := by
        have h : ¬ (i : Int) < l.length := hc
        omega
      subst hk
      rw [List.take_length]
      conv => whnf
      exact retB
theorem call25a (w : List UInt8) (n : Int) (s : List UInt8) (hs : s.length ≤ 1000000000) (hw : w.length ≤ 100) (hr : r64 n) :
    PureCall Tryz.prog 25 [.str w, .sl 2 1 [[PV.int .i64 n]].length (fun i => [[PV.int .i64 n]].getD i []), .pt 0 0 0] [.bld 57 5 s] ⟨.tup [], [.bld 57 5 (s ++ putT w [n])], []⟩ :=
  PureCall.arg_le (call25 w [n] s hs hw (by simp) (by simpa using hr)) rfl ⟨ent, ⟨Nat.le_refl _, rfl, rfl, fun i hi => by match i, hi with | 0, _ => rfl⟩, ent, trivial⟩
theorem call25b (w : List UInt8) (n m : Int) (s : List UInt8) (hs : s.length ≤ 1000000000) (hw : w.length ≤ 100) (hr : r64 n ∧ r64 m) :
    PureCall Tryz.prog 25 [.str w, .sl 2 1 [[PV.int .i64 n], [PV.int .i64 m]].length (fun i => [[PV.int .i64 n], [PV.int .i64 m]].getD i []), .pt 0 0 0] [.bld 57 5 s] ⟨.tup [], [.bld 57 5 (s ++ putT w [n, m])], []⟩ :=
  PureCall.arg_le (call25 w [n, m] s hs hw (by simp) (by simpa using hr)) rfl ⟨ent, ⟨Nat.le_refl _, rfl, rfl, fun i hi => by match i, hi with | 0, _ => rfl | 1, _ => rfl⟩, ent, trivial⟩
def daysT (c : Cd) : List UInt8 := if c.f = 0 ∧ c.u = 364 then [] else putT (32 :: wDays) [c.f, c.u]
def aboveT (c : Cd) : List UInt8 := if c.a = 0 then [] else putT (32 :: wAbove) [c.a]
def belowT (c : Cd) : List UInt8 := if c.b = 16777216 then [] else putT (32 :: wBelow) [c.b]
def headT (c : Cd) : List UInt8 := putT wRank [c.r] ++ putT (32 :: kindW c.k) [c.v]
def lineT (c : Cd) : List UInt8 := headT c ++ (daysT c ++ (aboveT c ++ (belowT c ++ [10])))
def printC (l : List Cd) : List UInt8 := l.flatMap lineT
theorem allC_ok : ∀ {l : List Cd}, allC l = 0 → ∀ c ∈ l, oneC c = 0
  | [], _, c, h => by simp at h
  | x :: l, h, c, hc => by
    unfold allC at h
    split at h
    · rename_i h2; exact absurd h h2
    · rename_i h2
      rcases List.mem_cons.1 hc with rfl | hc
      · exact Classical.not_not.1 h2
      · exact allC_ok h c hc
theorem limC_ok {l : List Cd} (h : limC l = 0) : l.length ≤ 200 ∧ ∀ c ∈ l, oneC c = 0 := by
  unfold limC at h
  split at h
  · cases h
  · exact ⟨by omega, allC_ok h⟩
theorem kindW_len (k : Int) : (kindW k).length ≤ 5 := by
  unfold kindW
  repeat' split
  all_goals decide
theorem parts_len {c : Cd} (h : oneC c = 0) : (headT c).length ≤ 60 ∧ (daysT c).length ≤ 60 ∧ (aboveT c).length ≤ 60 ∧ (belowT c).length ≤ 60 := by
  obtain ⟨h1, h2, h3⟩ := oneC_ok h
  unfold badC at h3
  have hk := kindW_len c.k
  have e1 := putT_len wRank [c.r] (by simp [r64]; omega)
  have e2 := putT_len (32 :: kindW c.k) [c.v] (by simp [r64]; omega)
  have e3 := putT_len (32 :: wDays) [c.f, c.u] (by simp [r64]; omega)
  have e4 := putT_len (32 :: wAbove) [c.a] (by simp [r64]; omega)
  have e5 := putT_len (32 :: wBelow) [c.b] (by simp [r64]; omega)
  have l1 : wRank.length = 4 := rfl
  have l2 : wDays.length = 4 := rfl
  have l3 : wAbove.length = 5 := rfl
  have l4 : wBelow.length = 5 := rfl
  simp only [List.length_cons, List.length_nil] at e1 e2 e3 e4 e5
  refine ⟨?_, ?_, ?_, ?_⟩
  · unfold headT; rw [List.length_append]; omega
  · unfold daysT; split
    · exact Nat.zero_le _
    · omega
  · unfold aboveT; split
    · exact Nat.zero_le _
    · omega
  · unfold belowT; split
    · exact Nat.zero_le _
    · omega
theorem printC_take {l : List Cd} {i : Nat} (h : i < l.length) : printC (l.take (i + 1)) = printC (l.take i) ++ lineT (l.getD i default) := by
  have : l.take (i + 1) = l.take i ++ [l.getD i default] := by rw [List.take_add_one, getD_some h]; rfl
  rw [this]; simp [printC]
theorem lineT_len {c : Cd} (h : oneC c = 0) : (lineT c).length ≤ 250 := by
  obtain ⟨h1, h2, h3, h4⟩ := parts_len h
  simp only [lineT, List.length_append, List.length_cons, List.length_nil]
  omega
theorem printC_len : ∀ {l : List Cd}, (∀ c ∈ l, oneC c = 0) → (printC l).length ≤ 250 * l.length
  | [], _ => Nat.le_refl _
  | c :: l, h => by
    have ih := printC_len (l := l) fun x hx => h x (List.mem_cons_of_mem _ hx)
    have h1 := lineT_len (h c (List.mem_cons_self ..))
    simp only [printC, List.flatMap_cons, List.length_append, List.length_cons] at ih ⊢
    omega
theorem call9_bad (τ : Nat) (l : List Cd) (hb : limC l ≠ 0) : PureCall Tryz.prog 9 [.sl τ 7 l.length (fl eCd l)] [] ⟨.tup [.str [], .int .i64 (limC l)], [], []⟩ := by
  refine pure_call mix Tryz.func9 fits9 rfl ?_
  conv => whnf
  refine ⟨_, fun _ => call24 _ l, ?_⟩
  generalize limC l = e at hb ⊢
  conv => whnf
  refine ⟨?_, fun hc => ?_, fun hc => ?_⟩
  · exact g0
  · conv => whnf
    exact ret
  · exact absurd (by simpa using hc) hb
set_option maxRecDepth 100000 in
set_option maxHeartbeats 8000000 in
theorem call9 (τ : Nat) (l : List Cd) (hb : limC l = 0) : PureCall Tryz.prog 9 [.sl τ 7 l.length (fl eCd l)] [] ⟨.tup [.str (printC l), .int .i64 0], [], []⟩ := by
  obtain ⟨hl2, hV⟩ := limC_ok hb
  refine pure_call mix Tryz.func9 fits9 rfl ?_
  conv => whnf
  refine ⟨_, fun _ => call24 _ l, ?_⟩
  rw [hb]
  conv => whnf
  refine ⟨?_, fun hc => Bool.noConfusion (show false = true from hc), fun hc => ?_⟩
  · exact g0
  conv => whnf
  refine ⟨trivial, ?_⟩
  refine LSem.loop (n := 68) mix (α := Nat) (fun i => i ≤ l.length)
    (fun i => [(5, .pt 80 0 0), (6, .fn (.func 25) [] [.pt 80 0 0]), (15, .sl τ 7 l.length (fl eCd l)), (16, .int .i64 l.length), (17, .int .i64 i)])
    (fun i => [(80, .bld 57 5 (printC (l.take i)))]) (fun i => l.length - i) 0 ?_ ?_ ?_
  · exact Nat.zero_le _
  · refine ⟨rfl, rfl, ?_, ?_⟩ <;> exact ent
  · intro i hi
    have hj : ((i : Int)).toNat = i := by omega
    conv => whnf
    refine ⟨trivial, fun hc => ?_, fun hc => ?_⟩
    · replace hc := of_decide_eq_true hc
      have hlt : i < l.length := by
        have h : (i : Int) < l.length := hc
        omega
      have hpl := printC_len (l := l.take i) fun c hc => hV c (List.mem_of_mem_take hc)
      have hpl2 : (l.take i).length ≤ 200 := by rw [List.length_take]; omega
      have hpt := printC_take hlt
      have hone := hV _ (getD_mem hlt)
      have hpn := parts_len hone
      conv => whnf
      rw [hj]
      generalize l.getD i default = c at hpt hone hpn ⊢
      generalize printC (l.take i) = T at hpl hpt ⊢
      obtain ⟨o1, o2, o3⟩ := oneC_ok hone
      unfold badC at o3
      obtain ⟨p1, p2, p3, p4⟩ := hpn
      refine ⟨_, fun _ => call25a wRank c.r T (by omega) (by decide) (by unfold r64; omega), ?_⟩
      have hT1 : (T ++ putT wRank [c.r]).length ≤ 60000 := by
        have := putT_len wRank [c.r] (by simp [r64]; omega)
        simp only [List.length_append, List.length_cons, List.length_nil] at this ⊢
        have l1 : wRank.length = 4 := rfl
        omega
      conv => whnf
      refine ⟨?_, ?_⟩
      · exact g0
      refine LSem.meet (n := 68) mix (α := Unit) (fun _ => True)
        (fun _ => [(5, .pt 80 0 0), (6, .fn (.func 25) [] [.pt 80 0 0]), (8, .pt 128 0 0), (15, .sl τ 7 l.length (fl eCd l)), (16, .int .i64 l.length), (17, .int .i64 i)])
        (fun _ => [(80, .bld 57 5 (T ++ headT c)), (128, .box (eCd c))]) ?_ ?_
      · have hk : c.k = 1 ∨ c.k = 2 ∨ c.k = 3 ∨ c.k = 4 := by omega
        have key : ∀ K : List UInt8, kindW c.k = K → T ++ putT wRank [c.r] ++ putT ([32] ++ K) [c.v] = T ++ headT c := fun K hK => by rw [← hK, List.append_assoc]; rfl
        have hv : r64 c.v := by unfold r64; omega
        obtain ⟨r, k, v, f, u, a, b⟩ := c
        dsimp only at hk hv hT1
        rcases hk with rfl | rfl | rfl | rfl
        · have q := key wLeast rfl
          conv => whnf
          refine ⟨_, fun _ => call25a ([32] ++ wLeast) v (T ++ putT wRank [r]) (by omega) (by decide) hv, ?_⟩
          rw [q]
          conv => whnf
          refine ⟨rfl, ?_⟩
          conv => whnf
          refine ⟨?_, (), trivial, rfl, rfl, ?_, ?_⟩
          · exact g0
          · exact ent
          · exact ent
        · have q := key wMost rfl
          conv => whnf
          refine ⟨_, fun _ => call25a ([32] ++ wMost) v (T ++ putT wRank [r]) (by omega) (by decide) hv, ?_⟩
          rw [q]
          conv => whnf
          refine ⟨rfl, ?_⟩
          conv => whnf
          refine ⟨?_, (), trivial, rfl, rfl, ?_, ?_⟩
          · exact g0
          · exact ent
          · exact ent
        · have q := key wUp rfl
          conv => whnf
          refine ⟨_, fun _ => call25a ([32] ++ wUp) v (T ++ putT wRank [r]) (by omega) (by decide) hv, ?_⟩
          rw [q]
          conv => whnf
          refine ⟨rfl, ?_⟩
          conv => whnf
          refine ⟨?_, (), trivial, rfl, rfl, ?_, ?_⟩
          · exact g0
          · exact ent
          · exact ent
        · have q := key wDown rfl
          conv => whnf
          refine ⟨_, fun _ => call25a ([32] ++ wDown) v (T ++ putT wRank [r]) (by omega) (by decide) hv, ?_⟩
          rw [q]
          conv => whnf
          refine ⟨rfl, ?_⟩
          conv => whnf
          refine ⟨?_, (), trivial, rfl, rfl, ?_, ?_⟩
          · exact g0
          · exact ent
          · exact ent
      rintro ⟨⟩ -
      have hT2 : (T ++ headT c).length ≤ 60000 := by rw [List.length_append]; omega
      conv => whnf
      refine ⟨trivial, ?_⟩
      refine LSem.meet (n := 68) mix (α := Unit) (fun _ => True)
        (fun _ => [(5, .pt 80 0 0), (6, .fn (.func 25) [] [.pt 80 0 0]), (8, .pt 128 0 0), (15, .sl τ 7 l.length (fl eCd l)), (16, .int .i64 l.length), (17, .int .i64 i)])
        (fun _ => [(80, .bld 57 5 (T ++ headT c ++ daysT c)), (128, .box (eCd c))]) ?_ ?_
      · conv => whnf
        by_cases hd : c.f = 0 ∧ c.u = 364
        · have q : T ++ headT c = T ++ headT c ++ daysT c := by unfold daysT; rw [if_pos hd, List.append_nil]
          refine ⟨trivial, fun hc => ?_, fun hc => ?_⟩
          · exact absurd hc (by rw [hd.1, hd.2]; decide)
          conv => whnf
          refine ⟨?_, (), trivial, rfl, rfl, ?_, ?_⟩
          · exact g0
          · exact ent
          · exact ent
        · have q : T ++ headT c ++ putT (32 :: wDays) [c.f, c.u] = T ++ headT c ++ daysT c := by unfold daysT; rw [if_neg hd]
          refine ⟨trivial, fun hc => ?_, fun hc => ?_⟩
          · conv => whnf
            refine ⟨_, fun _ => call25b (32 :: wDays) c.f c.u (T ++ headT c) (by omega) (by decide) (by unfold r64; omega), ?_⟩
            rw [q]
            conv => whnf
            refine ⟨?_, (), trivial, rfl, rfl, ?_, ?_⟩
            · exact g0
            · exact ent
            · exact ent
          · refine absurd hc fun hc => hd ?_
            replace hc : (!(c.f == 0 && (c.u == 364 && true))) = false := hc
            simpa using hc
      rintro ⟨⟩ -
      have hT3 : (T ++ headT c ++ daysT c).length ≤ 60100 := by rw [List.length_append]; omega
      conv => whnf
      refine ⟨trivial, ?_⟩
      refine LSem.meet (n := 68) mix (α := Unit) (fun _ => True)
        (fun _ => [(5, .pt 80 0 0), (6, .fn (.func 25) [] [.pt 80 0 0]), (8, .pt 128 0 0), (15, .sl τ 7 l.length (fl eCd l)), (16, .int .i64 l.length), (17, .int .i64 i)])
        (fun _ => [(80, .bld 57 5 (T ++ headT c ++ daysT c ++ aboveT c)), (128, .box (eCd c))]) ?_ ?_
      · conv => whnf
        refine ⟨trivial, fun hc => ?_, fun hc => ?_⟩
        · simp only [bp] at hc
          have q : T ++ headT c ++ daysT c ++ putT (32 :: wAbove) [c.a] = T ++ headT c ++ daysT c ++ aboveT c := by unfold aboveT; rw [if_neg hc]
          conv => whnf
          refine ⟨_, fun _ => call25a (32 :: wAbove) c.a (T ++ headT c ++ daysT c) (by omega) (by decide) (by unfold r64; omega), ?_⟩
          rw [q]
          conv => whnf
          refine ⟨?_, (), trivial, rfl, rfl, ?_, ?_⟩
          · exact g0
          · exact ent
          · exact ent
        · simp only [bp] at hc
          have q : T ++ headT c ++ daysT c = T ++ headT c ++ daysT c ++ aboveT c := by unfold aboveT; rw [if_pos hc, List.append_nil]
          conv => whnf
          refine ⟨?_, (), trivial, rfl, rfl, ?_, ?_⟩
          · exact g0
          · exact ent
          · exact ent
      rintro ⟨⟩ -
      have hT4 : (T ++ headT c ++ daysT c ++ aboveT c).length ≤ 60200 := by rw [List.length_append]; omega
      conv => whnf
      refine ⟨trivial, ?_⟩
      refine LSem.meet (n := 68) mix (α := Unit) (fun _ => True)
        (fun _ => [(5, .pt 80 0 0), (6, .fn (.func 25) [] [.pt 80 0 0]), (8, .pt 128 0 0), (15, .sl τ 7 l.length (fl eCd l)), (16, .int .i64 l.length), (17, .int .i64 i)])
        (fun _ => [(80, .bld 57 5 (T ++ headT c ++ daysT c ++ aboveT c ++ belowT c)), (128, .box (eCd c))]) ?_ ?_
      · conv => whnf
        refine ⟨trivial, fun hc => ?_, fun hc => ?_⟩
        · simp only [bp] at hc
          have q : T ++ headT c ++ daysT c ++ aboveT c ++ putT (32 :: wBelow) [c.b] = T ++ headT c ++ daysT c ++ aboveT c ++ belowT c := by unfold belowT; rw [if_neg hc]
          conv => whnf
          refine ⟨_, fun _ => call25a (32 :: wBelow) c.b (T ++ headT c ++ daysT c ++ aboveT c) (by omega) (by decide) (by unfold r64; omega), ?_⟩
          rw [q]
          conv => whnf
          refine ⟨?_, (), trivial, rfl, rfl, ?_, ?_⟩
          · exact g0
          · exact ent
          · exact ent
        · simp only [bp] at hc
          have q : T ++ headT c ++ daysT c ++ aboveT c = T ++ headT c ++ daysT c ++ aboveT c ++ belowT c := by unfold belowT; rw [if_pos hc, List.append_nil]
          conv => whnf
          refine ⟨?_, (), trivial, rfl, rfl, ?_, ?_⟩
          · exact g0
          · exact ent
          · exact ent
      rintro ⟨⟩ -
      have hT5 : (T ++ headT c ++ daysT c ++ aboveT c ++ belowT c).length ≤ 60300 := by rw [List.length_append]; omega
      have q : (T ++ headT c ++ daysT c ++ aboveT c ++ belowT c) ++ [10] = printC (l.take (i + 1)) := by rw [hpt]; simp [lineT]
      conv => whnf
      refine ⟨_, fun _ => call28 (T ++ headT c ++ daysT c ++ aboveT c ++ belowT c) 10 (by omega), ?_⟩
      rw [q]
      conv => whnf
      refine ⟨?_, i + 1, hlt, by omega, rfl, rfl, ?_, ?_⟩
      · exact g0
      · exact ent
      · exact ent
    · replace hc := of_decide_eq_false hc
      have hk : i = l.length := by
        have h : ¬ (i : Int) < l.length := hc
        omega
      subst hk
      rw [List.take_length]
      conv => whnf
      refine ⟨_, fun _ => call29z (printC l), ?_⟩
      conv => whnf
      exact ret
end Pv
end Go.Proofs.YtknidebojogodaaGreatDoor
/- LAW 13, PLAIN: what the program reads of a line's words is what they say; conditions are read back from their text. -/
set_option linter.unusedSimpArgs false
set_option linter.unusedVariables false
namespace Go.Proofs.YtknidebojogodaaGreatDoor
namespace Pv
def outO (x : Cd × Bool) : Option Cd := if x.2 = true then some x.1 else none
theorem partsG_bad (n : Nat) (c : Cd) (d a b : Bool) (w : List (List UInt8)) : outO (partsG n c true d a b w) = none := by
  cases n with
  | zero => rfl
  | succ n => unfold partsG; rw [if_pos rfl]; rfl
theorem partsG_badE {x : Bool} (hx : x = true) (n : Nat) (c : Cd) (d a b : Bool) (w : List (List UInt8)) : outO (partsG n c x d a b w) = none := by
  subst hx; exact partsG_bad ..
theorem partsG_O (n : Nat) : ∀ (c : Cd) (d a b : Bool) (w : List (List UInt8)), w.length < n → outO (partsG n c false d a b w) = partsO c d a b w := by
  induction n with
  | zero => intro c d a b w h; omega
  | succ n ih =>
    intro c d a b w h
    match w, h with
    | [], h => unfold partsG partsO; rfl
    | [x], h =>
      unfold partsG partsO
      dsimp only
      rw [if_neg (by decide)]
      split
      · exact partsG_badE (by cases d <;> rfl) ..
      · split
        · exact partsG_badE (by cases a <;> rfl) ..
        · split
          · exact partsG_badE (by cases b <;> rfl) ..
          · rfl
    | x :: y :: r, h =>
      simp only [List.length_cons] at h
      have hy : numB (y :: r) = (numF y).isNone := rfl
      have hg : numG (y :: r) = (numF y).getD 0 := rfl
      unfold partsG partsO
      dsimp only
      rw [if_neg (by decide)]
      by_cases e1 : x = wDays
      · rw [if_pos e1, if_pos e1]
        cases d with
        | true => rw [if_pos rfl]; exact partsG_badE rfl ..
        | false =>
          rw [if_neg (by decide)]
          cases r with
          | nil => exact partsG_badE (by show ((false || numB [y]) || true) = true; exact Bool.or_true _) ..
          | cons y2 r2 =>
            dsimp only
            have hy2 : numB (y :: y2 :: r2).tail = (numF y2).isNone := rfl
            have hg2 : numG (y :: y2 :: r2).tail = (numF y2).getD 0 := rfl
            rw [hy, hy2, hg, hg2]
            cases h1 : numF y with
            | none => exact partsG_badE (by cases (numF y2).isNone <;> rfl) ..
            | some m =>
              cases h2 : numF y2 with
              | none => exact partsG_badE rfl ..
              | some k =>
                simp only [List.length_cons] at h
                exact ih _ _ _ _ _ (by show r2.length < n; omega)
      rw [if_neg e1, if_neg e1]
      by_cases e2 : x = wAbove
      · rw [if_pos e2, if_pos e2, hy, hg]
        cases a with
        | true => rw [if_pos rfl]; exact partsG_badE rfl ..
        | false =>
          rw [if_neg (by decide)]
          cases h1 : numF y with
          | none => exact partsG_badE rfl ..
          | some m => exact ih _ _ _ _ _ (by show r.length < n; omega)
      rw [if_neg e2, if_neg e2]
      by_cases e3 : x = wBelow
      · rw [if_pos e3, if_pos e3, hy, hg]
        cases b with
        | true => rw [if_pos rfl]; exact partsG_badE rfl ..
        | false =>
          rw [if_neg (by decide)]
          cases h1 : numF y with
          | none => exact partsG_badE rfl ..
          | some m => exact ih _ _ _ _ _ (by show r.length < n; omega)
      rw [if_neg e3, if_neg e3]
      rfl
theorem condG_O (w : List (List UInt8)) : outO (condG w) = condO w := by
  unfold condG
  match w with
  | [] => exact partsG_badE rfl ..
  | [_] => exact partsG_badE (by simp [headG, numB, numF]) ..
  | [_, _] => exact partsG_badE (by simp [headG, numB, numF]) ..
  | [_, _, _] => exact partsG_badE (by simp [headG, numB, numF]) ..
  | rk :: x :: kd :: y :: r =>
    have hb : (headG (rk :: x :: kd :: y :: r)).2 = ((((!(rk == wRank)) || (numF x).isNone) || false || (kindOf kd == 0)) || (numF y).isNone) := rfl
    have hc : (headG (rk :: x :: kd :: y :: r)).1 = ⟨(numF x).getD 0, kindOf kd, (numF y).getD 0, 0, 364, 0, 16777216⟩ := rfl
    rw [hb, hc]
    unfold condO
    dsimp only
    by_cases e1 : rk = wRank
    · rw [if_pos e1]
      cases h1 : numF x with
      | none => exact partsG_badE (by simp) ..
      | some m =>
        cases h2 : numF y with
        | none => exact partsG_badE (by simp) ..
        | some k =>
          dsimp only
          by_cases e2 : kindOf kd = 0
          · rw [if_pos e2]; exact partsG_badE (by simp [e2]) ..
          · rw [if_neg e2, show ((((!(rk == wRank)) || (some m).isNone) || false || (kindOf kd == 0)) || (some k).isNone) = false by simp [e1, e2]]
            exact partsG_O _ _ _ _ _ _ (by show r.length < _; simp only [List.length_cons]; omega)
    · rw [if_neg e1]; exact partsG_badE (by simp [e1]) ..
theorem condG_some {w : List (List UInt8)} {c : Cd} (h : condO w = some c) : condG w = (c, true) := by
  have := condG_O w
  rw [h] at this
  unfold outO at this
  split at this
  · rename_i h2
    injection this with h3
    exact Prod.ext h3 h2
  · cases this
theorem condG_none {w : List (List UInt8)} (h : condO w = none) : (condG w).2 = false := by
  have := condG_O w
  rw [h] at this
  unfold outO at this
  split at this
  · cases this
  · rename_i h2; simpa using h2
/-! ### the text of conditions, in lines and words -/
def joinW : List (List UInt8) → List UInt8
  | [] => []
  | x :: xs => x ++ xs.flatMap (32 :: ·)
theorem joinW_cons (x y : List UInt8) (r : List (List UInt8)) : joinW (x :: y :: r) = x ++ 32 :: joinW (y :: r) := by simp [joinW]
theorem words_joinW : ∀ {w : List (List UInt8)}, (∀ x ∈ w, WordOK isBl x) → wordsB isBl (joinW w) = w
  | [], _ => rfl
  | [x], h => by
    have : joinW [x] = x := by simp [joinW]
    rw [this]; exact words_one (h x (by simp))
  | x :: y :: r, h => by
    rw [joinW_cons, words_app isBl x 32 rfl, words_one (h x (by simp)), words_joinW (w := y :: r) (fun z hz => h z (by simp [hz]))]; rfl
theorem joinW_clean : ∀ {w : List (List UInt8)}, (∀ x ∈ w, WordOK isBl x) → ∀ b ∈ joinW w, b ≠ 10
  | [], _, b, hb => by simp [joinW] at hb
  | [x], h, b, hb => by
    have : joinW [x] = x := by simp [joinW]
    rw [this] at hb
    have := (h x (by simp)).2 b hb
    intro e; subst e; cases this
  | x :: y :: r, h, b, hb => by
    rw [joinW_cons, List.mem_append, List.mem_cons] at hb
    rcases hb with hb | rfl | hb
    · have := (h x (by simp)).2 b hb
      intro e; subst e; cases this
    · decide
    · exact joinW_clean (w := y :: r) (fun z hz => h z (by simp [hz])) b hb
theorem itoa_ok {n : Int} (h0 : 0 ≤ n) : WordOK isBl (Lib.itoa n) := by
  have he : Lib.itoa n = Lib.decDigits n.toNat := by unfold Lib.itoa; rw [if_neg (by omega)]
  refine ⟨fun e => ?_, fun b hb => ?_⟩
  · have := decDigits_ne n.toNat
    rw [← he, e] at this; simp at this
  · have := itoa_clean h0 b hb
    exact isBl_not (fun h => h.elim this.1 this.2)
theorem wordsOf_ok {c : Cd} (h : oneC c = 0) : ∀ x ∈ wordsOf c, WordOK isBl x := by
  obtain ⟨h1, h2, h3⟩ := oneC_ok h
  unfold badC at h3
  have hk : WordOK isBl (kindW c.k) := by
    have : c.k = 1 ∨ c.k = 2 ∨ c.k = 3 ∨ c.k = 4 := by omega
    rcases this with e | e | e | e <;> rw [e] <;> exact ⟨by decide, by decide⟩
  intro x hx
  unfold wordsOf at hx
  simp only [List.mem_append, List.mem_cons, List.not_mem_nil, or_false] at hx
  rcases hx with (rfl | rfl | rfl | rfl) | hx | hx | hx
  · exact ⟨by decide, by decide⟩
  · exact itoa_ok (by omega)
  · exact hk
  · exact itoa_ok (by omega)
  · unfold daysW at hx
    split at hx
    · simp at hx
    · simp only [List.mem_cons, List.not_mem_nil, or_false] at hx
      rcases hx with rfl | rfl | rfl
      · exact ⟨by decide, by decide⟩
      · exact itoa_ok (by omega)
      · exact itoa_ok (by omega)
  · unfold aboveW at hx
    split at hx
    · simp at hx
    · simp only [List.mem_cons, List.not_mem_nil, or_false] at hx
      rcases hx with rfl | rfl
      · exact ⟨by decide, by decide⟩
      · exact itoa_ok (by omega)
  · unfold belowW at hx
    split at hx
    · simp at hx
    · simp only [List.mem_cons, List.not_mem_nil, or_false] at hx
      rcases hx with rfl | rfl
      · exact ⟨by decide, by decide⟩
      · exact itoa_ok (by omega)
theorem lineT_join (c : Cd) : lineT c = joinW (wordsOf c) ++ [10] := by
  have h1 : daysT c = (daysW c).flatMap (32 :: ·) := by unfold daysT daysW; split <;> simp [putT]
  have h2 : aboveT c = (aboveW c).flatMap (32 :: ·) := by unfold aboveT aboveW; split <;> simp [putT]
  have h3 : belowT c = (belowW c).flatMap (32 :: ·) := by unfold belowT belowW; split <;> simp [putT]
  unfold lineT headT wordsOf
  rw [h1, h2, h3]
  simp [joinW, putT]
theorem linesW_line {c : Cd} (h : oneC c = 0) (rest : List UInt8) : linesW (lineT c ++ rest) = wordsOf c :: linesW rest := by
  have hok := wordsOf_ok h
  rw [lineT_join, List.append_assoc]
  unfold linesW
  rw [show [10] ++ rest = 10 :: rest from rfl, splitC_cut (joinW_clean hok), List.map_cons, words_joinW hok]
theorem linesW_print : ∀ {l : List Cd}, (∀ c ∈ l, oneC c = 0) → ∀ rest, linesW (printC l ++ rest) = l.map wordsOf ++ linesW rest
  | [], _, rest => rfl
  | c :: l, h, rest => by
    have ih := linesW_print (l := l) (fun x hx => h x (List.mem_cons_of_mem _ hx)) rest
    rw [show printC (c :: l) = lineT c ++ printC l from rfl, List.append_assoc, linesW_line (h c (List.mem_cons_self ..)), ih]; rfl
def numd : Int → List Cd → List (Int × List (List UInt8))
  | _, [] => []
  | i, c :: l => (i + 1, wordsOf c) :: numd (i + 1) l
theorem numd_len : ∀ (l : List Cd) (i : Int), (numd i l).length = l.length
  | [], _ => rfl
  | c :: l, i => by simp [numd, numd_len l]
theorem linL_numd : ∀ (l : List Cd) (i : Int) (W : List (List (List UInt8))), linL i (l.map wordsOf ++ W) = numd i l ++ linL (i + l.length) W
  | [], i, W => by simp [numd]
  | c :: l, i, W => by
    have ih := linL_numd l (i + 1) W
    have hc : cntd (wordsOf c) = true := rfl
    rw [List.map_cons, List.cons_append]
    show (if cntd (wordsOf c) = true then (i + 1, wordsOf c) :: linL (i + 1) (l.map wordsOf ++ W) else linL (i + 1) (l.map wordsOf ++ W)) = _
    rw [if_pos hc, ih, List.length_cons, show i + 1 + (l.length : Int) = i + ((l.length + 1 : Nat) : Int) by omega]
    rfl
theorem parG_numd : ∀ {l : List Cd}, (∀ c ∈ l, oneC c = 0) → ∀ (i : Int) (R : List (Int × List (List UInt8))) (out : List Cd), parG (numd i l ++ R) out = parG R (out ++ l)
  | [], _, i, R, out => by simp [numd]
  | c :: l, h, i, R, out => by
    have ih := parG_numd (l := l) (fun x hx => h x (List.mem_cons_of_mem _ hx)) (i + 1) R (out ++ [c])
    have hc := h c (List.mem_cons_self ..)
    have hg := condG_some (cond_back hc)
    show (if (condG (wordsOf c)).2 = false then ([], i + 1, 7) else if oneC (condG (wordsOf c)).1 ≠ 0 then ([], i + 1, oneC (condG (wordsOf c)).1) else parG (numd (i + 1) l ++ R) (out ++ [(condG (wordsOf c)).1])) = _
    rw [hg]
    dsimp only
    rw [if_neg (by decide), if_neg (fun e => e hc), ih, List.append_assoc]
    rfl
theorem linesW_nil : linesW [] = [[]] := rfl
theorem parse_print {l : List Cd} (h : limC l = 0) : parseG (printC l) = (l, 0, 0) := by
  obtain ⟨hl, hV⟩ := limC_ok h
  have hlen := printC_len hV
  have hL : linL 0 (linesW (printC l)) = numd 0 l := by
    have := linesW_print hV []
    rw [List.append_nil, linesW_nil] at this
    rw [this, linL_numd]
    show numd 0 l ++ [] = _
    rw [List.append_nil]
  unfold parseG
  rw [if_neg (by omega), hL, numd_len, if_neg (by omega)]
  have := parG_numd hV 0 [] []
  rw [List.append_nil, List.nil_append] at this
  rw [this]; rfl
theorem parG_ok : ∀ {L : List (Int × List (List UInt8))} {out a : List Cd} {n : Int}, parG L out = (a, n, 0) → (∀ c ∈ out, oneC c = 0) → n = 0 ∧ (∀ c ∈ a, oneC c = 0) ∧ a.length ≤ out.length + L.length
  | [], out, a, n, h, ho => by
    simp only [parG, Prod.mk.injEq] at h
    obtain ⟨rfl, rfl, _⟩ := h
    exact ⟨rfl, ho, Nat.le_refl _⟩
  | x :: L, out, a, n, h, ho => by
    unfold parG at h
    split at h
    · simp at h
    · split at h
      · rename_i h2
        simp only [Prod.mk.injEq] at h
        exact absurd h.2.2 h2
      · rename_i h2
        obtain ⟨g1, g2, g3⟩ := parG_ok h fun c hc => by
          rcases List.mem_append.1 hc with hc | hc
          · exact ho c hc
          · rw [List.mem_singleton] at hc; subst hc; exact Classical.not_not.1 h2
        refine ⟨g1, g2, ?_⟩
        rw [List.length_append] at g3
        simp only [List.length_cons, List.length_nil] at g3 ⊢
        omega
theorem allC_of : ∀ {l : List Cd}, (∀ c ∈ l, oneC c = 0) → allC l = 0
  | [], _ => rfl
  | c :: l, h => by
    unfold allC
    rw [if_neg (fun e => e (h c (List.mem_cons_self ..)))]
    exact allC_of fun x hx => h x (List.mem_cons_of_mem _ hx)
theorem limC_of {l : List Cd} (hl : l.length ≤ 200) (h : ∀ c ∈ l, oneC c = 0) : limC l = 0 := by
  unfold limC
  rw [if_neg (by omega), allC_of h]
theorem parse_ok {s : List UInt8} (h : (parseG s).2.2 = 0) : limC (parseG s).1 = 0 ∧ (parseG s).2.1 = 0 := by
  have hp : parseG s = ((parseG s).1, (parseG s).2.1, 0) := Prod.ext rfl (Prod.ext rfl h)
  generalize (parseG s).1 = a at hp ⊢
  generalize (parseG s).2.1 = n at hp ⊢
  unfold parseG at hp
  split at hp
  · simp at hp
  · split at hp
    · simp at hp
    · obtain ⟨g1, g2, g3⟩ := parG_ok hp (by simp)
      simp only [List.length_nil] at g3
      exact ⟨limC_of (by omega) g2, g1⟩
theorem made_one {c : Cd} (h : CondOK c) : oneC c = 0 := by
  obtain ⟨h1, h2, h3, h4, h5, h6, h7, h8⟩ := h
  unfold oneC
  rw [if_neg (by omega), if_neg (by omega), if_neg (by unfold badC; omega)]
theorem made_ok (d : Dk) : limC (condsF d).1 = 0 ∧ (∀ c ∈ (condsF d).1, oneC c = 0) ∧ (condsF d).1.length ≤ 6 := by
  obtain ⟨h1, h2, _⟩ := condsF_ok d
  have h3 : ∀ c ∈ (condsF d).1, oneC c = 0 := fun c hc => by
    obtain ⟨i, hi, rfl⟩ := List.getElem_of_mem hc
    have := h2 i hi
    rw [show (condsF d).1.getD i default = (condsF d).1[i] by simp [List.getD, hi]] at this
    exact made_one this
  exact ⟨limC_of (by omega) h3, h3, h1⟩
end Pv
end Go.Proofs.YtknidebojogodaaGreatDoor
/- LAW 13, THE WALKS: the reference's first error of a condition, of conditions. -/
set_option linter.unusedSimpArgs false
set_option linter.unusedVariables false
namespace Go.Proofs.YtknidebojogodaaGreatDoor
namespace Pv
def c75 : C := (.seq (.reg [⟨(some 4), 64, none, .mv (.c (.bool false))⟩])
  (.seq (.reg [⟨(some 5), 80, none, .mv (.t 0)⟩,
    ⟨(some 6), 96, none, .bi false .geq (.t 5) (.c (.int .i64 0))⟩,
    ⟨(some 7), 112, none, .mv (.t 6)⟩,
    ⟨(some 8), 128, (some (7, true)), .mv (.t 0)⟩,
    ⟨(some 9), 144, (some (7, true)), .mv (.t 1)⟩,
    ⟨(some 10), 160, (some (7, true)), .bi false .leq (.t 8) (.t 9)⟩,
    ⟨(some 11), 176, none, .pick (.t 7) (.t 10) (.c (.bool false))⟩,
    ⟨(some 4), 64, none, .mv (.t 11)⟩])
  .ret))
theorem fits75 : fits Tryz.prog false Tryz.f75 2 12 [(4, none)] = some c75.er := by kernel_rfl
def c59 : C := (.seq (.reg [⟨(some 4), 64, none, .mv (.c (.bool false))⟩])
  (.seq (.reg [⟨(some 5), 80, none, .mv (.t 0)⟩,
    ⟨(some 6), 96, none, .mv (.t 1)⟩,
    ⟨(some 7), 112, none, .call (.c (.fn (.func 75) [] [])) [(.t 5), (.t 6)]⟩,
    ⟨(some 4), 64, none, .mv (.t 7)⟩])
  .ret))
theorem fits59 : fits Tryz.prog false Tryz.f59 2 8 [(4, none)] = some c59.er := by kernel_rfl
def c76 : C := (.seq (.reg [⟨(some 2), 32, none, .mv (.c (.bool false))⟩])
  (.seq (.reg [⟨(some 3), 48, none, .mv (.t 0)⟩,
    ⟨(some 4), 64, none, .call (.c (.fn (.func 59) [] [])) [(.t 3), (.c (.int .i64 364))]⟩,
    ⟨(some 2), 32, none, .mv (.t 4)⟩])
  .ret))
theorem fits76 : fits Tryz.prog false Tryz.f76 1 5 [(2, none)] = some c76.er := by kernel_rfl
def c60 : C := (.seq (.reg [⟨(some 1), 16, none, .bx 2 (.t 0)⟩,
    ⟨(some 2), 32, none, .mv (.c (.bool false))⟩])
  (.seq (.reg [⟨(some 3), 48, none, .fa 0 (.t 1)⟩,
    ⟨(some 4), 64, none, .ld 1 false (.t 3)⟩,
    ⟨(some 5), 80, none, .call (.c (.fn (.func 76) [] [])) [(.t 4)]⟩,
    ⟨(some 6), 96, none, .mv (.t 5)⟩,
    ⟨(some 7), 112, (some (6, true)), .fa 1 (.t 1)⟩,
    ⟨(some 8), 128, (some (6, true)), .ld 1 false (.t 7)⟩,
    ⟨(some 9), 144, (some (6, true)), .call (.c (.fn (.func 76) [] [])) [(.t 8)]⟩,
    ⟨(some 10), 160, none, .pick (.t 6) (.t 9) (.c (.bool false))⟩,
    ⟨(some 2), 32, none, .mv (.t 10)⟩])
  .ret))
theorem fits60 : fits Tryz.prog false Tryz.f60 1 11 [(2, none)] = some c60.er := by kernel_rfl
def c42 : C := (.seq (.reg [⟨(some 1), 16, none, .bx 7 (.t 0)⟩,
    ⟨(some 2), 32, none, .mv (.c (.int .i64 0))⟩])
  (.seq (.seq (.reg [⟨(some 3), 48, none, .fa 0 (.t 1)⟩,
    ⟨(some 4), 64, none, .ld 1 false (.t 3)⟩,
    ⟨(some 5), 80, none, .bi false .lss (.t 4) (.c (.int .i64 1))⟩,
    ⟨(some 6), 96, none, .mv (.t 5)⟩,
    ⟨(some 7), 112, (some (6, false)), .fa 0 (.t 1)⟩,
    ⟨(some 8), 128, (some (6, false)), .ld 1 false (.t 7)⟩,
    ⟨(some 9), 144, (some (6, false)), .bi false .gtr (.t 8) (.c (.int .i64 9))⟩,
    ⟨(some 10), 160, none, .pick (.t 6) (.c (.bool true)) (.t 9)⟩])
  (.cond (.t 10) (.seq (.reg [⟨(some 2), 32, none, .mv (.c (.int .i64 1))⟩])
  .ret) .skip))
  (.seq (.seq (.reg [⟨(some 11), 176, none, .fa 1 (.t 1)⟩,
    ⟨(some 12), 192, none, .ld 1 false (.t 11)⟩,
    ⟨(some 13), 208, none, .bi false .lss (.t 12) (.c (.int .i64 1))⟩,
    ⟨(some 14), 224, none, .mv (.t 13)⟩,
    ⟨(some 15), 240, (some (14, false)), .fa 1 (.t 1)⟩,
    ⟨(some 16), 256, (some (14, false)), .ld 1 false (.t 15)⟩,
    ⟨(some 17), 272, (some (14, false)), .bi false .gtr (.t 16) (.c (.int .i64 4))⟩,
    ⟨(some 18), 288, none, .pick (.t 14) (.c (.bool true)) (.t 17)⟩])
  (.cond (.t 18) (.seq (.reg [⟨(some 2), 32, none, .mv (.c (.int .i64 5))⟩])
  .ret) .skip))
  (.seq (.seq (.reg [⟨(some 19), 304, none, .fa 2 (.t 1)⟩,
    ⟨(some 20), 320, none, .ld 1 false (.t 19)⟩,
    ⟨(some 21), 336, none, .call (.c (.fn (.func 59) [] [])) [(.t 20), (.c (.int .i64 1073741824))]⟩,
    ⟨(some 22), 352, none, .un false .not (.t 21)⟩,
    ⟨(some 23), 368, none, .mv (.t 22)⟩,
    ⟨(some 24), 384, (some (23, false)), .fa 3 (.t 1)⟩,
    ⟨(some 25), 400, (some (23, false)), .ld 2 true (.t 24)⟩,
    ⟨(some 26), 416, (some (23, false)), .call (.c (.fn (.func 60) [] [])) [(.t 25)]⟩,
    ⟨(some 27), 432, (some (23, false)), .un false .not (.t 26)⟩,
    ⟨(some 28), 448, none, .pick (.t 23) (.c (.bool true)) (.t 27)⟩,
    ⟨(some 29), 464, none, .mv (.t 28)⟩,
    ⟨(some 30), 480, (some (29, false)), .fa 5 (.t 1)⟩,
    ⟨(some 31), 496, (some (29, false)), .ld 1 false (.t 30)⟩,
    ⟨(some 32), 512, (some (29, false)), .call (.c (.fn (.func 59) [] [])) [(.t 31), (.c (.int .i64 16777216))]⟩,
    ⟨(some 33), 528, (some (29, false)), .un false .not (.t 32)⟩,
    ⟨(some 34), 544, none, .pick (.t 29) (.c (.bool true)) (.t 33)⟩,
    ⟨(some 35), 560, none, .mv (.t 34)⟩,
    ⟨(some 36), 576, (some (35, false)), .fa 6 (.t 1)⟩,
    ⟨(some 37), 592, (some (35, false)), .ld 1 false (.t 36)⟩,
    ⟨(some 38), 608, (some (35, false)), .call (.c (.fn (.func 59) [] [])) [(.t 37), (.c (.int .i64 16777216))]⟩,
    ⟨(some 39), 624, (some (35, false)), .un false .not (.t 38)⟩,
    ⟨(some 40), 640, none, .pick (.t 35) (.c (.bool true)) (.t 39)⟩,
    ⟨(some 41), 656, none, .mv (.t 40)⟩,
    ⟨(some 42), 672, (some (41, false)), .fa 5 (.t 1)⟩,
    ⟨(some 43), 688, (some (41, false)), .ld 1 false (.t 42)⟩,
    ⟨(some 44), 704, (some (41, false)), .fa 6 (.t 1)⟩,
    ⟨(some 45), 720, (some (41, false)), .ld 1 false (.t 44)⟩,
    ⟨(some 46), 736, (some (41, false)), .bi false .gtr (.t 43) (.t 45)⟩,
    ⟨(some 47), 752, none, .pick (.t 41) (.c (.bool true)) (.t 46)⟩])
  (.cond (.t 47) (.seq (.reg [⟨(some 2), 32, none, .mv (.c (.int .i64 1))⟩])
  .ret) .skip))
  (.seq (.reg [⟨(some 2), 32, none, .mv (.c (.int .i64 0))⟩])
  .ret)))))
theorem fits42 : fits Tryz.prog false Tryz.f42 1 48 [(2, none)] = some c42.er := by kernel_rfl
def c30L1 : C := (.seq (.reg [⟨(some 12), 192, none, .bi false .lss (.t 11) (.t 10)⟩])
  (.seq (.cond (.t 12) .skip (.exit 0))
  (.seq (.block 1 (.seq (.reg [⟨(some 13), 208, none, .ia 7 (.t 9) (.t 11)⟩,
    ⟨(some 14), 224, none, .ld 7 true (.t 13)⟩,
    ⟨(some 4), 64, none, .al [(.int .i64 0), (.int .i64 0), (.int .i64 0), (.int .i64 0), (.int .i64 0), (.int .i64 0), (.int .i64 0)]⟩,
    ⟨none, 0, none, .st 7 (.t 4) (.t 14)⟩])
  (.seq (.reg [⟨(some 15), 240, none, .ld 7 true (.t 4)⟩,
    ⟨(some 16), 256, none, .call (.c (.fn (.func 42) [] [])) [(.t 15)]⟩,
    ⟨(some 5), 80, none, .mv (.t 16)⟩])
  (.seq (.reg [⟨(some 17), 272, none, .mv (.t 5)⟩,
    ⟨(some 18), 288, none, .bi false .neq (.t 17) (.c (.int .i64 0))⟩])
  (.cond (.t 18) (.seq (.reg [⟨(some 19), 304, none, .mv (.t 5)⟩,
    ⟨(some 2), 32, none, .mv (.t 19)⟩])
  .ret) .skip)))))
  (.reg [⟨(some 20), 320, none, .bi false .add (.t 11) (.c (.int .i64 1))⟩,
    ⟨(some 11), 176, none, .mv (.t 20)⟩]))))
def c30 : C := (.seq (.reg [⟨(some 2), 32, none, .mv (.c (.int .i64 0))⟩])
  (.seq (.seq (.reg [⟨(some 6), 96, none, .mv (.t 0)⟩,
    ⟨(some 7), 112, none, .len (.t 6)⟩,
    ⟨(some 8), 128, none, .bi false .gtr (.t 7) (.c (.int .i64 200))⟩])
  (.cond (.t 8) (.seq (.reg [⟨(some 2), 32, none, .mv (.c (.int .i64 10))⟩])
  .ret) .skip))
  (.seq (.seq (.reg [⟨(some 9), 144, none, .mv (.t 0)⟩,
    ⟨(some 10), 160, none, .len (.t 9)⟩,
    ⟨(some 11), 176, none, .mv (.c (.int .i64 0))⟩])
  (.block 0 (.loop c30L1)))
  (.seq (.reg [⟨(some 2), 32, none, .mv (.c (.int .i64 0))⟩])
  .ret))))
theorem fits30 : fits Tryz.prog false Tryz.f30 1 21 [(2, none)] = some c30.er := by kernel_rfl
theorem call75 (n m : Int) : PureCall Tryz.prog 75 [.int .i64 n, .int .i64 m] [] ⟨.bool (wi n m), [], []⟩ := by
  refine pure_call mix Tryz.func75 fits75 rfl ?_
  conv => whnf
  refine ⟨?_, [], ?_⟩
  · exact g0
  conv => whnf
  refine ⟨rfl, ?_, trivial, trivial⟩
  show PLe _ _ _ _
  conv => whnf
  unfold wi
  cases decide (0 ≤ n) <;> rfl
theorem call59 (n m : Int) : PureCall Tryz.prog 59 [.int .i64 n, .int .i64 m] [] ⟨.bool (wi n m), [], []⟩ := by
  refine pure_call mix Tryz.func59 fits59 rfl ?_
  conv => whnf
  refine ⟨_, fun _ => call75 n m, ?_⟩
  conv => whnf
  exact ret
theorem call76 (n : Int) : PureCall Tryz.prog 76 [.int .i64 n] [] ⟨.bool (wi n 364), [], []⟩ := by
  refine pure_call mix Tryz.func76 fits76 rfl ?_
  conv => whnf
  refine ⟨_, fun _ => call59 n 364, ?_⟩
  conv => whnf
  exact ret
theorem call60 (f u : Int) : PureCall Tryz.prog 60 [.agg [.int .i64 f, .int .i64 u]] [] ⟨.bool (wi f 364 && wi u 364), [], []⟩ := by
  refine pure_call mix Tryz.func60 fits60 rfl ?_
  conv => whnf
  refine ⟨_, fun _ => call76 f, ?_⟩
  conv => whnf
  refine ⟨_, fun _ => call76 u, ?_⟩
  conv => whnf
  refine ⟨?_, [], ?_⟩
  · exact g0
  conv => whnf
  refine ⟨rfl, ?_, trivial, trivial⟩
  show PLe _ _ _ _
  conv => whnf
  cases wi f 364 <;> rfl
set_option maxRecDepth 100000 in
theorem call42 (c : Cd) : PureCall Tryz.prog 42 [.agg (eCd c)] [] ⟨.int .i64 (oneC c), [], []⟩ := by
  refine pure_call mix Tryz.func42 fits42 rfl ?_
  unfold oneC
  conv => whnf
  refine ⟨?_, fun hc => ?_, fun hc => ?_⟩
  · exact g0
  · simp only [bp] at hc
    rw [if_pos (by omega)]
    conv => whnf
    exact ret
  simp only [bp] at hc
  rw [if_neg (by omega)]
  conv => whnf
  refine ⟨?_, fun hc => ?_, fun hc => ?_⟩
  · exact g0
  · simp only [bp] at hc
    rw [if_pos (by omega)]
    conv => whnf
    exact ret
  simp only [bp] at hc
  rw [if_neg (by omega)]
  conv => whnf
  refine ⟨_, fun _ => call59 c.v 1073741824, ?_⟩
  conv => whnf
  refine ⟨_, fun _ => call60 c.f c.u, ?_⟩
  conv => whnf
  refine ⟨_, fun _ => call59 c.a 16777216, ?_⟩
  conv => whnf
  refine ⟨_, fun _ => call59 c.b 16777216, ?_⟩
  conv => whnf
  refine ⟨?_, fun hc => ?_, fun hc => ?_⟩
  · exact g0
  · have hb : badC c := of_decide_eq_true ((bad_test c).symm.trans hc)
    rw [if_pos hb]
    conv => whnf
    exact ret
  · have hb : ¬ badC c := of_decide_eq_false ((bad_test c).symm.trans hc)
    rw [if_neg hb]
    conv => whnf
    exact ret
set_option maxRecDepth 100000 in
theorem call30 (τ : Nat) (l : List Cd) : PureCall Tryz.prog 30 [.sl τ 7 l.length (fl eCd l)] [] ⟨.int .i64 (limC l), [], []⟩ := by
  refine pure_call mix Tryz.func30 fits30 rfl ?_
  unfold limC
  conv => whnf
  refine ⟨?_, fun hc => ?_, fun hc => ?_⟩
  · exact g0
  · simp only [bp] at hc
    rw [if_pos (by omega)]
    conv => whnf
    exact ret
  simp only [bp] at hc
  rw [if_neg (by omega)]
  conv => whnf
  refine ⟨trivial, ?_⟩
  refine LSem.loop (n := 21) mix (α := Nat) (fun i => i ≤ l.length ∧ allC (l.drop i) = allC l)
    (fun i => [(9, .sl τ 7 l.length (fl eCd l)), (10, .int .i64 l.length), (11, .int .i64 i)])
    (fun i => []) (fun i => l.length - i) 0 ?_ ?_ ?_
  · exact ⟨Nat.zero_le _, rfl⟩
  · refine ⟨rfl, rfl, ?_, ?_⟩ <;> exact ent
  · rintro i ⟨hi, hp⟩
    have hj : ((i : Int)).toNat = i := by omega
    conv => whnf
    refine ⟨trivial, fun hc => ?_, fun hc => ?_⟩
    · replace hc := of_decide_eq_true hc
      have hlt : i < l.length := by
        have h : (i : Int) < l.length := hc
        omega
      rw [allC_drop hlt] at hp
      conv => whnf
      rw [hj]
      refine ⟨_, fun _ => call42 (l.getD i default), ?_⟩
      generalize oneC (l.getD i default) = e at hp ⊢
      conv => whnf
      refine ⟨?_, fun h => ?_, fun h => ?_⟩
      · exact g0
      · simp only [bp] at h
        rw [if_pos h] at hp
        rw [← hp]
        conv => whnf
        exact ret
      · simp only [bp] at h
        rw [if_neg (by omega)] at hp
        conv => whnf
        refine ⟨?_, i + 1, ⟨hlt, hp⟩, by omega, rfl, rfl, ?_, ?_⟩
        · exact g0
        · exact ent
        · exact ent
    · replace hc := of_decide_eq_false hc
      have hk : i = l.length := by
        have h : ¬ (i : Int) < l.length := hc
        omega
      subst hk
      rw [List.drop_length] at hp
      rw [← show (0 : Int) = allC l from hp]
      conv => whnf
      exact ret
end Pv
end Go.Proofs.YtknidebojogodaaGreatDoor
/- THE WALKS: lines, words and numbers of a text, as the references take them. -/
set_option linter.unusedSimpArgs false
set_option linter.unusedVariables false
namespace Go.Proofs.YtknidebojogodaaGreatDoor
namespace Pv
def c39L1 : C := (.seq (.seq (.reg [⟨(some 6), 96, none, .mv (.t 5)⟩,
    ⟨(some 7), 112, none, .mv (.t 0)⟩,
    ⟨(some 8), 128, none, .lens (.t 7)⟩,
    ⟨(some 9), 144, none, .bi false .leq (.t 6) (.t 8)⟩])
  (.cond (.t 9) .skip (.exit 0)))
  (.seq (.block 1 (.seq (.reg [⟨(some 12), 192, none, .mv (.t 5)⟩,
    ⟨(some 13), 208, none, .mv (.t 0)⟩,
    ⟨(some 14), 224, none, .lens (.t 13)⟩,
    ⟨(some 15), 240, none, .bi false .eql (.t 12) (.t 14)⟩,
    ⟨(some 16), 256, none, .mv (.t 15)⟩,
    ⟨(some 17), 272, (some (16, false)), .mv (.t 0)⟩,
    ⟨(some 18), 288, (some (16, false)), .mv (.t 5)⟩,
    ⟨(some 19), 304, (some (16, false)), .ixs (.t 17) (.t 18)⟩,
    ⟨(some 20), 320, (some (16, false)), .bi false .eql (.t 19) (.c (.int .u8 10))⟩,
    ⟨(some 21), 336, none, .pick (.t 16) (.c (.bool true)) (.t 20)⟩])
  (.cond (.t 21) (.seq (.reg [⟨(some 22), 352, none, .mv (.t 3)⟩,
    ⟨(some 23), 368, none, .mv (.t 0)⟩,
    ⟨(some 24), 384, none, .mv (.t 4)⟩,
    ⟨(some 25), 400, none, .mv (.t 5)⟩,
    ⟨(some 26), 416, none, .slcs (.t 23) (some (.t 24)) (some (.t 25))⟩,
    ⟨(some 27), 432, none, .bs 9 1 [(.t 26)]⟩,
    ⟨(some 28), 448, none, .app 9 1 16 (.t 22) (.t 27)⟩,
    ⟨(some 3), 48, none, .mv (.t 28)⟩])
  (.reg [⟨(some 29), 464, none, .mv (.t 5)⟩,
    ⟨(some 30), 480, none, .bi false .add (.t 29) (.c (.int .i64 1))⟩,
    ⟨(some 4), 64, none, .mv (.t 30)⟩])) .skip)))
  (.reg [⟨(some 10), 160, none, .mv (.t 5)⟩,
    ⟨(some 11), 176, none, .bi false .add (.t 10) (.c (.int .i64 1))⟩,
    ⟨(some 5), 80, none, .mv (.t 11)⟩])))
def c39 : C := (.seq (.reg [⟨(some 2), 32, none, .mv (.c (.nil 1))⟩])
  (.seq (.reg [⟨(some 3), 48, none, .mv (.c (.nil 1))⟩])
  (.seq (.reg [⟨(some 4), 64, none, .mv (.c (.int .i64 0))⟩])
  (.seq (.seq (.reg [⟨(some 5), 80, none, .mv (.c (.int .i64 0))⟩])
  (.block 0 (.loop c39L1)))
  (.seq (.reg [⟨(some 31), 496, none, .mv (.t 3)⟩,
    ⟨(some 2), 32, none, .mv (.t 31)⟩])
  .ret)))))
theorem fits39 : fits Tryz.prog false Tryz.f39 1 32 [(2, none)] = some c39.er := by kernel_rfl
def c33L1 : C := (.seq (.seq (.reg [⟨(some 6), 96, none, .mv (.t 5)⟩,
    ⟨(some 7), 112, none, .mv (.t 0)⟩,
    ⟨(some 8), 128, none, .lens (.t 7)⟩,
    ⟨(some 9), 144, none, .bi false .leq (.t 6) (.t 8)⟩])
  (.cond (.t 9) .skip (.exit 0)))
  (.seq (.block 1 (.seq (.reg [⟨(some 12), 192, none, .mv (.t 5)⟩,
    ⟨(some 13), 208, none, .mv (.t 0)⟩,
    ⟨(some 14), 224, none, .lens (.t 13)⟩,
    ⟨(some 15), 240, none, .bi false .eql (.t 12) (.t 14)⟩,
    ⟨(some 16), 256, none, .mv (.t 15)⟩,
    ⟨(some 17), 272, (some (16, false)), .mv (.t 0)⟩,
    ⟨(some 18), 288, (some (16, false)), .mv (.t 5)⟩,
    ⟨(some 19), 304, (some (16, false)), .ixs (.t 17) (.t 18)⟩,
    ⟨(some 20), 320, (some (16, false)), .bi false .eql (.t 19) (.c (.int .u8 32))⟩,
    ⟨(some 21), 336, none, .pick (.t 16) (.c (.bool true)) (.t 20)⟩,
    ⟨(some 22), 352, none, .mv (.t 21)⟩,
    ⟨(some 23), 368, (some (22, false)), .mv (.t 0)⟩,
    ⟨(some 24), 384, (some (22, false)), .mv (.t 5)⟩,
    ⟨(some 25), 400, (some (22, false)), .ixs (.t 23) (.t 24)⟩,
    ⟨(some 26), 416, (some (22, false)), .bi false .eql (.t 25) (.c (.int .u8 10))⟩,
    ⟨(some 27), 432, none, .pick (.t 22) (.c (.bool true)) (.t 26)⟩])
  (.cond (.t 27) (.seq (.seq (.reg [⟨(some 28), 448, none, .mv (.t 5)⟩,
    ⟨(some 29), 464, none, .mv (.t 4)⟩,
    ⟨(some 30), 480, none, .bi false .gtr (.t 28) (.t 29)⟩])
  (.cond (.t 30) (.reg [⟨(some 31), 496, none, .mv (.t 3)⟩,
    ⟨(some 32), 512, none, .mv (.t 0)⟩,
    ⟨(some 33), 528, none, .mv (.t 4)⟩,
    ⟨(some 34), 544, none, .mv (.t 5)⟩,
    ⟨(some 35), 560, none, .slcs (.t 32) (some (.t 33)) (some (.t 34))⟩,
    ⟨(some 36), 576, none, .bs 9 1 [(.t 35)]⟩,
    ⟨(some 37), 592, none, .app 9 1 16 (.t 31) (.t 36)⟩,
    ⟨(some 3), 48, none, .mv (.t 37)⟩]) .skip))
  (.reg [⟨(some 38), 608, none, .mv (.t 5)⟩,
    ⟨(some 39), 624, none, .bi false .add (.t 38) (.c (.int .i64 1))⟩,
    ⟨(some 4), 64, none, .mv (.t 39)⟩])) .skip)))
  (.reg [⟨(some 10), 160, none, .mv (.t 5)⟩,
    ⟨(some 11), 176, none, .bi false .add (.t 10) (.c (.int .i64 1))⟩,
    ⟨(some 5), 80, none, .mv (.t 11)⟩])))
def c33 : C := (.seq (.reg [⟨(some 2), 32, none, .mv (.c (.nil 1))⟩])
  (.seq (.reg [⟨(some 3), 48, none, .mv (.c (.nil 1))⟩])
  (.seq (.reg [⟨(some 4), 64, none, .mv (.c (.int .i64 0))⟩])
  (.seq (.seq (.reg [⟨(some 5), 80, none, .mv (.c (.int .i64 0))⟩])
  (.block 0 (.loop c33L1)))
  (.seq (.reg [⟨(some 40), 640, none, .mv (.t 3)⟩,
    ⟨(some 2), 32, none, .mv (.t 40)⟩])
  .ret)))))
theorem fits33 : fits Tryz.prog false Tryz.f33 1 41 [(2, none)] = some c33.er := by kernel_rfl
def c74L1 : C := (.seq (.seq (.reg [⟨(some 14), 224, none, .mv (.t 5)⟩,
    ⟨(some 15), 240, none, .mv (.t 0)⟩,
    ⟨(some 16), 256, none, .lens (.t 15)⟩,
    ⟨(some 17), 272, none, .bi false .lss (.t 14) (.t 16)⟩])
  (.cond (.t 17) .skip (.exit 0)))
  (.seq (.block 1 (.seq (.seq (.reg [⟨(some 20), 320, none, .mv (.t 0)⟩,
    ⟨(some 21), 336, none, .mv (.t 5)⟩,
    ⟨(some 22), 352, none, .ixs (.t 20) (.t 21)⟩,
    ⟨(some 23), 368, none, .bi false .lss (.t 22) (.c (.int .u8 48))⟩,
    ⟨(some 24), 384, none, .mv (.t 23)⟩,
    ⟨(some 25), 400, (some (24, false)), .mv (.t 0)⟩,
    ⟨(some 26), 416, (some (24, false)), .mv (.t 5)⟩,
    ⟨(some 27), 432, (some (24, false)), .ixs (.t 25) (.t 26)⟩,
    ⟨(some 28), 448, (some (24, false)), .bi false .gtr (.t 27) (.c (.int .u8 57))⟩,
    ⟨(some 29), 464, none, .pick (.t 24) (.c (.bool true)) (.t 28)⟩])
  (.cond (.t 29) (.seq (.reg [⟨(some 2), 32, none, .mv (.c (.int .i64 0))⟩,
    ⟨(some 3), 48, none, .mv (.c (.bool false))⟩])
  .ret) .skip))
  (.reg [⟨(some 30), 480, none, .mv (.t 4)⟩,
    ⟨(some 31), 496, none, .bi false .mul (.c (.int .i64 10)) (.t 30)⟩,
    ⟨(some 32), 512, none, .mv (.t 0)⟩,
    ⟨(some 33), 528, none, .mv (.t 5)⟩,
    ⟨(some 34), 544, none, .ixs (.t 32) (.t 33)⟩,
    ⟨(some 35), 560, none, .bi false .sub (.t 34) (.c (.int .u8 48))⟩,
    ⟨(some 36), 576, none, .cv false .i64 (.t 35)⟩,
    ⟨(some 37), 592, none, .bi false .add (.t 31) (.t 36)⟩,
    ⟨(some 4), 64, none, .mv (.t 37)⟩])))
  (.reg [⟨(some 18), 288, none, .mv (.t 5)⟩,
    ⟨(some 19), 304, none, .bi false .add (.t 18) (.c (.int .i64 1))⟩,
    ⟨(some 5), 80, none, .mv (.t 19)⟩])))
def c74 : C := (.seq (.reg [⟨(some 2), 32, none, .mv (.c (.int .i64 0))⟩,
    ⟨(some 3), 48, none, .mv (.c (.bool false))⟩])
  (.seq (.seq (.reg [⟨(some 6), 96, none, .mv (.t 0)⟩,
    ⟨(some 7), 112, none, .lens (.t 6)⟩,
    ⟨(some 8), 128, none, .bi false .lss (.t 7) (.c (.int .i64 1))⟩,
    ⟨(some 9), 144, none, .mv (.t 8)⟩,
    ⟨(some 10), 160, (some (9, false)), .mv (.t 0)⟩,
    ⟨(some 11), 176, (some (9, false)), .lens (.t 10)⟩,
    ⟨(some 12), 192, (some (9, false)), .bi false .gtr (.t 11) (.c (.int .i64 10))⟩,
    ⟨(some 13), 208, none, .pick (.t 9) (.c (.bool true)) (.t 12)⟩])
  (.cond (.t 13) (.seq (.reg [⟨(some 2), 32, none, .mv (.c (.int .i64 0))⟩,
    ⟨(some 3), 48, none, .mv (.c (.bool false))⟩])
  .ret) .skip))
  (.seq (.reg [⟨(some 4), 64, none, .mv (.c (.int .i64 0))⟩])
  (.seq (.seq (.reg [⟨(some 5), 80, none, .mv (.c (.int .i64 0))⟩])
  (.block 0 (.loop c74L1)))
  (.seq (.reg [⟨(some 38), 608, none, .mv (.t 4)⟩,
    ⟨(some 2), 32, none, .mv (.t 38)⟩,
    ⟨(some 3), 48, none, .mv (.c (.bool true))⟩])
  .ret)))))
theorem fits74 : fits Tryz.prog false Tryz.f74 1 39 [(2, none), (3, none)] = some c74.er := by kernel_rfl
def isNl (b : UInt8) : Bool := b == 10
def isBn (b : UInt8) : Bool := b == 32 || b == 10
theorem u8_eq {x : UInt8} {n : Nat} (hn : n < 256) : ((x.toNat : Int) == (n : Int)) = (x == UInt8.ofNat n) := by
  have h1 : (UInt8.ofNat n).toNat = n := by rw [UInt8.toNat_ofNat']; omega
  by_cases h : x = UInt8.ofNat n
  · subst h; rw [h1]; simp
  · have h2 : x.toNat ≠ n := fun e => h (UInt8.toNat_inj.1 (by rw [h1]; exact e))
    rw [beq_eq_false_iff_ne.2 h]
    simp only [beq_eq_false_iff_ne, ne_eq]; omega
section
variable {p : UInt8 → Bool} {s : List UInt8} {a i : Nat}
theorem seg_app (h : a ≤ i) (hi : i ≤ s.length) : s.drop a = (s.take i).drop a ++ s.drop i := by
  have e : s = s.take i ++ s.drop i := (List.take_append_drop i s).symm
  have : s.drop a = (s.take i ++ s.drop i).drop a := by rw [← e]
  rw [this, List.drop_append_of_le_length (by rw [List.length_take]; omega)]
theorem seg_no (hno : ∀ k, a ≤ k → k < i → p (s.getD k 0) = false) (hi : i ≤ s.length) : ∀ x ∈ (s.take i).drop a, p x = false := fun x hx => by
  obtain ⟨k, hk⟩ := List.getElem?_of_mem hx
  rw [List.getElem?_drop, List.getElem?_take] at hk
  split at hk
  · have := hno (a + k) (by omega) (by omega)
    simpa [List.getD, hk] using this
  · cases hk
theorem seg_sep (h : a ≤ i) (hi : i < s.length) (hno : ∀ k, a ≤ k → k < i → p (s.getD k 0) = false) (hp : p (s.getD i 0) = true) : splitP p (s.drop a) = (s.take i).drop a :: splitP p (s.drop (i + 1)) := by
  have hd : s.drop i = s.getD i 0 :: s.drop (i + 1) := by
    rw [List.drop_eq_getElem_cons hi]; simp [List.getD, hi]
  rw [seg_app h (Nat.le_of_lt hi), hd, splitP_sep p _ _ _ (seg_no hno (Nat.le_of_lt hi)) hp]
theorem seg_end (h : a ≤ s.length) (hno : ∀ k, a ≤ k → k < s.length → p (s.getD k 0) = false) : splitP p (s.drop a) = [(s.take s.length).drop a] := by
  have := seg_no hno (Nat.le_refl _)
  rw [List.take_length] at this ⊢
  exact splitP_none p _ this
end
theorem pP_mem (p : UInt8 → Bool) : ∀ (s : List UInt8), ∀ x ∈ splitP p s, ∀ b ∈ x, p b = false ∧ b ∈ s
  | [], x, hx, b, hb => by simp [splitP] at hx; subst hx; simp at hb
  | y :: ys, x, hx, b, hb => by
    simp only [splitP] at hx
    split at hx
    · rcases List.mem_cons.1 hx with rfl | hx
      · simp at hb
      · exact ⟨(pP_mem p ys x hx b hb).1, List.mem_cons_of_mem _ (pP_mem p ys x hx b hb).2⟩
    · rename_i hy
      split at hx
      · simp only [List.mem_singleton] at hx; subst hx
        simp only [List.mem_singleton] at hb; subst hb
        exact ⟨by simpa using hy, List.mem_cons_self ..⟩
      · rename_i h t he
        rcases List.mem_cons.1 hx with rfl | hx
        · rcases List.mem_cons.1 hb with rfl | hb
          · exact ⟨by simpa using hy, List.mem_cons_self ..⟩
          · have := pP_mem p ys h (by rw [he]; exact List.mem_cons_self ..) b hb
            exact ⟨this.1, List.mem_cons_of_mem _ this.2⟩
        · have := pP_mem p ys x (by rw [he]; exact List.mem_cons_of_mem _ hx) b hb
          exact ⟨this.1, List.mem_cons_of_mem _ this.2⟩
theorem splitP_congr {p q : UInt8 → Bool} : ∀ (s : List UInt8), (∀ b ∈ s, p b = q b) → splitP p s = splitP q s
  | [], _ => rfl
  | x :: xs, h => by
    simp only [splitP, h x (List.mem_cons_self ..), splitP_congr xs fun b hb => h b (List.mem_cons_of_mem _ hb)]
structure CutS where
  i : Nat
  a : Nat
  out : List (List UInt8)
structure CInv (p : UInt8 → Bool) (F : List (List UInt8) → List (List UInt8)) (s : List UInt8) (x : CutS) : Prop where
  le : x.a ≤ x.i ∧ x.i ≤ s.length + 1
  ln : x.out.length ≤ x.i
  no : ∀ k, x.a ≤ k → k < x.i → k < s.length → p (s.getD k 0) = false
  rest : x.i ≤ s.length → x.out ++ F (splitP p (s.drop x.a)) = F (splitP p s)
  fin : s.length < x.i → x.out = F (splitP p s)
theorem CInv.start (p : UInt8 → Bool) (F : List (List UInt8) → List (List UInt8)) (s : List UInt8) : CInv p F s ⟨0, 0, []⟩ :=
  ⟨⟨Nat.le_refl _, Nat.zero_le _⟩, Nat.le_refl _, fun k h1 h2 => absurd h2 (Nat.not_lt_zero _), fun _ => rfl, fun h => absurd h (Nat.not_lt_zero _)⟩
theorem CInv.skip {p : UInt8 → Bool} {F : List (List UInt8) → List (List UInt8)} {s : List UInt8} {x : CutS} (h : CInv p F s x) (hi : x.i < s.length) (hp : p (s.getD x.i 0) = false) : CInv p F s ⟨x.i + 1, x.a, x.out⟩ := by
  obtain ⟨⟨a1, a2⟩, b, c, d, e⟩ := h
  refine ⟨⟨by dsimp only; omega, by dsimp only; omega⟩, by dsimp only; omega, fun k h1 h2 h3 => ?_, fun _ => d (by omega), fun h => absurd h (by dsimp only; omega)⟩
  dsimp only at h1 h2
  by_cases hk : k = x.i
  · rw [hk]; exact hp
  · exact c k h1 (by omega) h3
theorem CInv.cut {p : UInt8 → Bool} {F : List (List UInt8) → List (List UInt8)} {s : List UInt8} {x : CutS} {out' : List (List UInt8)} (h : CInv p F s x) (hi : x.i ≤ s.length) (hp : x.i = s.length ∨ p (s.getD x.i 0) = true)
    (ho : ∀ L, x.out ++ F ((s.take x.i).drop x.a :: L) = out' ++ F L) (hF : F [] = []) (hl : out'.length ≤ x.out.length + 1) : CInv p F s ⟨x.i + 1, x.i + 1, out'⟩ := by
  obtain ⟨⟨a1, a2⟩, b, c, d, e⟩ := h
  refine ⟨⟨Nat.le_refl _, by dsimp only; omega⟩, by dsimp only; omega, fun k h1 h2 h3 => by dsimp only at h1 h2; omega, fun h => ?_, fun h => ?_⟩
  · dsimp only at h ⊢
    have hlt : x.i < s.length := by omega
    rw [← d (by omega), seg_sep a1 hlt (fun k h1 h2 => c k h1 h2 (by omega)) (hp.resolve_left (by omega)), ho]
  · dsimp only at h ⊢
    have hE : x.i = s.length := by omega
    have h2 := d (by omega)
    rw [seg_end (by omega) (fun k h1 h3 => c k h1 (by omega) h3), ← hE, ho, hF, List.append_nil] at h2
    exact h2
set_option maxRecDepth 100000 in
set_option maxHeartbeats 8000000 in
theorem call39 (s : List UInt8) (hs : s.length ≤ 65536) : PureCall Tryz.prog 39 [.str s] [] ⟨.os 1000000000, [], [.row 0 9 1 (splitP isNl s).length (fl eStr (splitP isNl s))]⟩ := by
  refine pure_call mix Tryz.func39 fits39 rfl ?_
  conv => whnf
  refine ⟨trivial, ?_⟩
  refine LSem.adopt 3 1000000 9 1 1 rfl rfl ?_
  refine LSem.loop (n := 32) mix (α := CutS) (CInv isNl id s)
    (fun x => [(0, .str s), (3, .os 1000000), (4, .int .i64 x.a), (5, .int .i64 x.i)])
    (fun x => [(1000000, .row 0 9 1 x.out.length (fl eStr x.out))]) (fun x => s.length + 1 - x.i) ⟨0, 0, []⟩ ?_ ?_ ?_
  · exact .start _ _ _
  · refine ⟨rfl, rfl, ?_, ?_⟩
    all_goals repeat' (first | exact True.intro | refine leF_cons rfl ?_ ?_ | refine leS_cons rfl ?_ ?_ | (show PLe _ _ _ _; conv => whnf) | (show SLe _ _ _ _; conv => whnf) | (show PLeL _ _ _ _; conv => whnf) | apply And.intro | rfl | exact Nat.le_refl _ | exact fun _ _ => rfl | exact rowEq0 _ _)
  · intro x hx
    obtain ⟨i, a, out⟩ := x
    have hle : a ≤ i ∧ i ≤ s.length + 1 := hx.le
    have hln : out.length ≤ i := hx.ln
    have hj : ((i : Int)).toNat = i := by omega
    have hja : ((a : Int)).toNat = a := by omega
    conv => whnf
    refine ⟨trivial, fun hc => ?_, fun hc => ?_⟩
    · replace hc := of_decide_eq_true hc
      have hlt : i ≤ s.length := by
        have h : (i : Int) ≤ s.length := hc
        omega
      conv => whnf
      dsimp only
      rw [hj, show (((s.getD i 0).toNat : Int) == 10) = isNl (s.getD i 0) from u8_eq (n := 10) (by decide)]
      refine ⟨?_, fun hc2 => ?_, fun hc2 => ?_⟩
      · exact g0
      · have hp : i = s.length ∨ isNl (s.getD i 0) = true := by
          simp only [bp] at hc2
          rcases hc2 with h | h
          · exact .inl (by omega)
          · exact .inr h.2
        have hcut := hx.cut (out' := out ++ [(s.take i).drop a]) hlt hp (fun L => by simp) rfl (by simp)
        have q := fl_push eStr out ((s.take i).drop a)
        have hxl : (out ++ [(s.take i).drop a]).length = out.length + 1 := by simp
        conv => whnf
        dsimp only
        rw [hja, hj]
        refine ⟨?_, ⟨i + 1, i + 1, out ++ [(s.take i).drop a]⟩, hcut, ?_, rfl, rfl, ?_, ?_⟩
        · exact g0
        · dsimp only; omega
        all_goals repeat' (first | exact True.intro | refine leF_cons rfl ?_ ?_ | refine leS_cons rfl ?_ ?_ | (show PLe _ _ _ _; conv => whnf) | (show SLe _ _ _ _; conv => whnf) | (show PLeL _ _ _ _; conv => whnf) | apply And.intro | rfl | exact Nat.le_refl _ | exact fun _ _ => rfl | exact rowEq0 _ _)
        all_goals first | exact q | (dsimp only; rw [hxl]; rfl) | (dsimp only; rw [hxl]) | (dsimp only; omega) | skip
      · have hp : i ≠ s.length ∧ isNl (s.getD i 0) = false := by
          simp only [bp] at hc2
          exact ⟨by omega, hc2.2⟩
        have hsk := hx.skip (by dsimp only; omega) hp.2
        conv => whnf
        refine ⟨?_, ⟨i + 1, a, out⟩, hsk, ?_, rfl, rfl, ?_, ?_⟩
        · exact g0
        · dsimp only; omega
        all_goals repeat' (first | exact True.intro | refine leF_cons rfl ?_ ?_ | refine leS_cons rfl ?_ ?_ | (show PLe _ _ _ _; conv => whnf) | (show SLe _ _ _ _; conv => whnf) | (show PLeL _ _ _ _; conv => whnf) | apply And.intro | rfl | exact Nat.le_refl _ | exact fun _ _ => rfl | exact rowEq0 _ _)
        all_goals first | (dsimp only; omega) | skip
    · replace hc := of_decide_eq_false hc
      have hk : s.length < i := by
        have h : ¬ (i : Int) ≤ s.length := hc
        omega
      have hf : out = splitP isNl s := hx.fin hk
      rw [← hf]
      conv => whnf
      refine ⟨?_, [1000000], ?_⟩
      · exact g0
      conv => whnf
      refine ⟨rfl, ?_, trivial, ?_⟩
      all_goals repeat' (first | exact True.intro | refine leF_cons rfl ?_ ?_ | refine leS_cons rfl ?_ ?_ | (show PLe _ _ _ _; conv => whnf) | (show SLe _ _ _ _; conv => whnf) | (show PLeL _ _ _ _; conv => whnf) | apply And.intro | rfl | exact Nat.le_refl _ | exact fun _ _ => rfl | exact rowEq0 _ _)
def neF (L : List (List UInt8)) : List (List UInt8) := L.filter fun x => !x.isEmpty
set_option maxRecDepth 100000 in
set_option maxHeartbeats 8000000 in
theorem call33 (s : List UInt8) (hs : s.length ≤ 65536) : PureCall Tryz.prog 33 [.str s] [] ⟨.os 1000000000, [], [.row 0 9 1 (wordsB isBn s).length (fl eStr (wordsB isBn s))]⟩ := by
  refine pure_call mix Tryz.func33 fits33 rfl ?_
  conv => whnf
  refine ⟨trivial, ?_⟩
  refine LSem.adopt 3 1000000 9 1 1 rfl rfl ?_
  refine LSem.loop (n := 41) mix (α := CutS) (CInv isBn neF s)
    (fun x => [(0, .str s), (3, .os 1000000), (4, .int .i64 x.a), (5, .int .i64 x.i)])
    (fun x => [(1000000, .row 0 9 1 x.out.length (fl eStr x.out))]) (fun x => s.length + 1 - x.i) ⟨0, 0, []⟩ ?_ ?_ ?_
  · exact .start _ _ _
  · refine ⟨rfl, rfl, ?_, ?_⟩
    all_goals repeat' (first | exact True.intro | refine leF_cons rfl ?_ ?_ | refine leS_cons rfl ?_ ?_ | (show PLe _ _ _ _; conv => whnf) | (show SLe _ _ _ _; conv => whnf) | (show PLeL _ _ _ _; conv => whnf) | apply And.intro | rfl | exact Nat.le_refl _ | exact fun _ _ => rfl | exact rowEq0 _ _)
  · intro x hx
    obtain ⟨i, a, out⟩ := x
    have hle : a ≤ i ∧ i ≤ s.length + 1 := hx.le
    have hln : out.length ≤ i := hx.ln
    have hj : ((i : Int)).toNat = i := by omega
    have hja : ((a : Int)).toNat = a := by omega
    conv => whnf
    refine ⟨trivial, fun hc => ?_, fun hc => ?_⟩
    · replace hc := of_decide_eq_true hc
      have hlt : i ≤ s.length := by
        have h : (i : Int) ≤ s.length := hc
        omega
      conv => whnf
      dsimp only
      rw [hj, show (((s.getD i 0).toNat : Int) == 10) = (s.getD i 0 == 10) from u8_eq (n := 10) (by decide), show (((s.getD i 0).toNat : Int) == 32) = (s.getD i 0 == 32) from u8_eq (n := 32) (by decide)]
      refine ⟨?_, fun hc2 => ?_, fun hc2 => ?_⟩
      · (try conv => whnf)
        have hlt2 : ((i : Int) == (s.length : Int)) = false → i < s.length := fun h => by simp at h; omega
        generalize ((i : Int) == (s.length : Int)) = B at hlt2 ⊢
        cases B
        · have := hlt2 rfl
          cases hq2 : (s.getD i 0 == 32) <;> simp [this]
        · simp
      · have hp : i = s.length ∨ isBn (s.getD i 0) = true := by
          by_cases he : i = s.length
          · exact .inl he
          · right
            have h1 : ((i : Int) == (s.length : Int)) = false := by simp; omega
            rw [h1] at hc2
            unfold isBn
            cases hq : (s.getD i 0 == 32) <;> cases hq2 : (s.getD i 0 == 10) <;> simp_all
        have hpl : ((s.take i).drop a).length = i - a := by rw [List.length_drop, List.length_take]; omega
        conv => whnf
        refine ⟨?_, fun hgt => ?_, fun hgt => ?_⟩
        · exact g0
        · replace hgt := of_decide_eq_true hgt
          have hgt2 : a < i := by
            have h : (a : Int) < i := hgt
            omega
          have hne : ((s.take i).drop a).isEmpty = false := by
            cases hE : (s.take i).drop a with
            | nil => rw [hE] at hpl; simp at hpl; omega
            | cons _ _ => rfl
          have hcut := hx.cut (out' := out ++ [(s.take i).drop a]) hlt hp (fun L => by
            show out ++ List.filter _ _ = _
            rw [List.filter_cons_of_pos (by simp [hne])]; simp [neF]) rfl (by simp)
          have q := fl_push eStr out ((s.take i).drop a)
          have hxl : (out ++ [(s.take i).drop a]).length = out.length + 1 := by simp
          conv => whnf
          dsimp only
          rw [hja, hj]
          refine ⟨?_, ⟨i + 1, i + 1, out ++ [(s.take i).drop a]⟩, hcut, ?_, rfl, rfl, ?_, ?_⟩
          · exact g0
          · dsimp only; omega
          all_goals repeat' (first | exact True.intro | refine leF_cons rfl ?_ ?_ | refine leS_cons rfl ?_ ?_ | (show PLe _ _ _ _; conv => whnf) | (show SLe _ _ _ _; conv => whnf) | (show PLeL _ _ _ _; conv => whnf) | apply And.intro | rfl | exact Nat.le_refl _ | exact fun _ _ => rfl | exact rowEq0 _ _)
          all_goals first | exact q | (dsimp only; rw [hxl]; rfl) | (dsimp only; rw [hxl]) | (dsimp only; omega) | skip
        · replace hgt := of_decide_eq_false hgt
          have hgt2 : a = i := by
            have h : ¬ (a : Int) < i := hgt
            omega
          have hE : (s.take i).drop a = [] := List.length_eq_zero_iff.1 (by omega)
          have hcut := hx.cut (out' := out) hlt hp (fun L => by
            rw [hE]
            show out ++ List.filter _ _ = _
            rw [List.filter_cons_of_neg (by simp)]; rfl) rfl (by simp)
          conv => whnf
          refine ⟨?_, ⟨i + 1, i + 1, out⟩, hcut, ?_, rfl, rfl, ?_, ?_⟩
          · exact g0
          · dsimp only; omega
          all_goals repeat' (first | exact True.intro | refine leF_cons rfl ?_ ?_ | refine leS_cons rfl ?_ ?_ | (show PLe _ _ _ _; conv => whnf) | (show SLe _ _ _ _; conv => whnf) | (show PLeL _ _ _ _; conv => whnf) | apply And.intro | rfl | exact Nat.le_refl _ | exact fun _ _ => rfl | exact rowEq0 _ _)
          all_goals first | (dsimp only; omega) | skip
      · have hp : i ≠ s.length ∧ isBn (s.getD i 0) = false := by
          by_cases he : i = s.length
          · have h1 : ((i : Int) == (s.length : Int)) = true := by simp; omega
            rw [h1] at hc2; cases hc2
          · refine ⟨he, ?_⟩
            have h1 : ((i : Int) == (s.length : Int)) = false := by simp; omega
            rw [h1] at hc2
            unfold isBn
            cases hq : (s.getD i 0 == 32) <;> cases hq2 : (s.getD i 0 == 10) <;> simp_all
        have hsk := hx.skip (by dsimp only; omega) hp.2
        conv => whnf
        refine ⟨?_, ⟨i + 1, a, out⟩, hsk, ?_, rfl, rfl, ?_, ?_⟩
        · exact g0
        · dsimp only; omega
        all_goals repeat' (first | exact True.intro | refine leF_cons rfl ?_ ?_ | refine leS_cons rfl ?_ ?_ | (show PLe _ _ _ _; conv => whnf) | (show SLe _ _ _ _; conv => whnf) | (show PLeL _ _ _ _; conv => whnf) | apply And.intro | rfl | exact Nat.le_refl _ | exact fun _ _ => rfl | exact rowEq0 _ _)
        all_goals first | (dsimp only; omega) | skip
    · replace hc := of_decide_eq_false hc
      have hk : s.length < i := by
        have h : ¬ (i : Int) ≤ s.length := hc
        omega
      have hf : out = wordsB isBn s := hx.fin hk
      rw [← hf]
      conv => whnf
      refine ⟨?_, [1000000], ?_⟩
      · exact g0
      conv => whnf
      refine ⟨rfl, ?_, trivial, ?_⟩
      all_goals repeat' (first | exact True.intro | refine leF_cons rfl ?_ ?_ | refine leS_cons rfl ?_ ?_ | (show PLe _ _ _ _; conv => whnf) | (show SLe _ _ _ _; conv => whnf) | (show PLeL _ _ _ _; conv => whnf) | apply And.intro | rfl | exact Nat.le_refl _ | exact fun _ _ => rfl | exact rowEq0 _ _)
theorem digs_drop {s : List UInt8} {i : Nat} (a : Int) (h : i < s.length) : digs a (s.drop i) = if (s.getD i 0).toNat < 48 ∨ 57 < (s.getD i 0).toNat then none else digs (10 * a + (((s.getD i 0).toNat : Int) - 48)) (s.drop (i + 1)) := by
  rw [List.drop_eq_getElem_cons h]
  have : s.getD i 0 = s[i] := by simp [List.getD, h]
  rw [this]; rfl
theorem pow10_le (i : Nat) (h : i ≤ 10) : (10 : Int) ^ i ≤ 10000000000 := (show ∀ i : Nat, i < 11 → (10 : Int) ^ i ≤ 10000000000 by decide) i (by omega)
theorem u8min : IntKind.u8.min = 0 := by decide
theorem u8max : IntKind.u8.max = 255 := by decide
set_option maxRecDepth 100000 in
set_option maxHeartbeats 8000000 in
theorem call74 (s : List UInt8) (hs : s.length ≤ 4611686018427387904) : PureCall Tryz.prog 74 [.str s] [] ⟨.tup [.int .i64 ((numF s).getD 0), .bool (numF s).isSome], [], []⟩ := by
  refine pure_call mix Tryz.func74 fits74 rfl ?_
  conv => whnf
  refine ⟨?_, fun hc => ?_, fun hc => ?_⟩
  · exact g0
  · simp only [bp] at hc
    have hn : numF s = none := by unfold numF; rw [if_pos (by omega)]
    rw [hn]
    conv => whnf
    refine ⟨?_, [], ?_⟩
    · exact g0
    conv => whnf
    refine ⟨rfl, ?_, trivial, trivial⟩
    all_goals repeat' (first | exact True.intro | refine leF_cons rfl ?_ ?_ | refine leS_cons rfl ?_ ?_ | (show PLe _ _ _ _; conv => whnf) | (show SLe _ _ _ _; conv => whnf) | (show PLeL _ _ _ _; conv => whnf) | apply And.intro | rfl | exact Nat.le_refl _ | exact fun _ _ => rfl | exact rowEq0 _ _)
  simp only [bp] at hc
  have hn : numF s = digs 0 s := by unfold numF; rw [if_neg (by omega)]
  have hl : 1 ≤ s.length ∧ s.length ≤ 10 := by omega
  rw [hn]
  clear hn hc hs
  conv => whnf
  refine ⟨trivial, ?_⟩
  refine LSem.loop (n := 39) mix (α := Nat × Int) (fun x => x.1 ≤ s.length ∧ digs x.2 (s.drop x.1) = digs 0 s ∧ 0 ≤ x.2 ∧ x.2 < (10 : Int) ^ x.1)
    (fun x => [(0, .str s), (4, .int .i64 x.2), (5, .int .i64 x.1)])
    (fun x => []) (fun x => s.length - x.1) (0, 0) ?_ ?_ ?_
  · exact ⟨Nat.zero_le _, rfl, Int.le_refl _, by decide⟩
  · refine ⟨rfl, rfl, ?_, ?_⟩
    all_goals repeat' (first | exact True.intro | refine leF_cons rfl ?_ ?_ | refine leS_cons rfl ?_ ?_ | (show PLe _ _ _ _; conv => whnf) | (show SLe _ _ _ _; conv => whnf) | (show PLeL _ _ _ _; conv => whnf) | apply And.intro | rfl | exact Nat.le_refl _ | exact fun _ _ => rfl | exact rowEq0 _ _)
  · intro x hx
    obtain ⟨i, a⟩ := x
    obtain ⟨h1, h2, h3, h4⟩ := hx
    dsimp only at h1 h2 h3 h4
    have hj : ((i : Int)).toNat = i := by omega
    have hpow := pow10_le i (by omega)
    have hpow2 : (10 : Int) ^ (i + 1) = 10 * 10 ^ i := by rw [Int.pow_succ, Int.mul_comm]
    conv => whnf
    refine ⟨trivial, fun hc => ?_, fun hc => ?_⟩
    · replace hc := of_decide_eq_true hc
      have hlt : i < s.length := by
        have h : (i : Int) < s.length := hc
        omega
      have hd := digs_drop a hlt
      have hb : (s.getD i 0).toNat < 256 := UInt8.toNat_lt _
      conv => whnf
      dsimp only
      rw [hj]
      refine ⟨?_, fun hc2 => ?_, fun hc2 => ?_⟩
      · exact g0
      · simp only [bp] at hc2
        have hd0 : digs 0 s = none := by rw [← h2, hd, if_pos (by omega)]
        rw [hd0]
        conv => whnf
        refine ⟨?_, [], ?_⟩
        · exact g0
        conv => whnf
        refine ⟨rfl, ?_, trivial, trivial⟩
        all_goals repeat' (first | exact True.intro | refine leF_cons rfl ?_ ?_ | refine leS_cons rfl ?_ ?_ | (show PLe _ _ _ _; conv => whnf) | (show SLe _ _ _ _; conv => whnf) | (show PLeL _ _ _ _; conv => whnf) | apply And.intro | rfl | exact Nat.le_refl _ | exact fun _ _ => rfl | exact rowEq0 _ _)
      · simp only [bp] at hc2
        rw [if_neg (by omega)] at hd
        conv => whnf
        refine ⟨?_, (i + 1, 10 * a + (((s.getD i 0).toNat : Int) - 48)), ⟨hlt, by rw [← hd]; exact h2, ?_, ?_⟩, ?_, rfl, rfl, ?_, ?_⟩
        · (try conv => whnf)
          try dsimp only
          rw [hj]
          (repeat' (first | exact True.intro | exact fun _ h => h | refine inR64_of ?_ ?_ | apply And.intro)) <;> (first | omega | (rw [u8min]; omega) | (rw [u8max]; omega))
        · dsimp only; omega
        · dsimp only; rw [hpow2]; omega
        · dsimp only; omega
        all_goals repeat' (first | exact True.intro | refine leF_cons rfl ?_ ?_ | refine leS_cons rfl ?_ ?_ | (show PLe _ _ _ _; conv => whnf) | (show SLe _ _ _ _; conv => whnf) | (show PLeL _ _ _ _; conv => whnf) | apply And.intro | rfl | exact Nat.le_refl _ | exact fun _ _ => rfl | exact rowEq0 _ _)
        all_goals first | omega | (dsimp only; rw [hj]; omega) | (dsimp only; rw [hj]; done) | skip
    · replace hc := of_decide_eq_false hc
      have hk : i = s.length := by
        have h : ¬ (i : Int) < s.length := hc
        omega
      subst hk
      rw [← h2, List.drop_length]
      conv => whnf
      refine ⟨?_, [], ?_⟩
      · exact g0
      conv => whnf
      refine ⟨rfl, ?_, trivial, trivial⟩
      all_goals repeat' (first | exact True.intro | refine leF_cons rfl ?_ ?_ | refine leS_cons rfl ?_ ?_ | (show PLe _ _ _ _; conv => whnf) | (show SLe _ _ _ _; conv => whnf) | (show PLeL _ _ _ _; conv => whnf) | apply And.intro | rfl | exact Nat.le_refl _ | exact fun _ _ => rfl | exact rowEq0 _ _)
end Pv
end Go.Proofs.YtknidebojogodaaGreatDoor
/- LAW 13, THE WALKS: words of kinds. -/
set_option linter.unusedSimpArgs false
set_option linter.unusedVariables false
namespace Go.Proofs.YtknidebojogodaaGreatDoor
namespace Pv
def c13 : C := (.seq (.reg [⟨(some 2), 32, none, .mv (.c (.str []))⟩])
  (.seq (.seq (.reg [⟨(some 3), 48, none, .mv (.t 0)⟩,
    ⟨(some 4), 64, none, .bi false .lss (.t 3) (.c (.int .i64 0))⟩,
    ⟨(some 5), 80, none, .mv (.t 4)⟩,
    ⟨(some 6), 96, (some (5, false)), .mv (.t 0)⟩,
    ⟨(some 7), 112, (some (5, false)), .bi false .geq (.t 6) (.c (.int .i64 5))⟩,
    ⟨(some 8), 128, none, .pick (.t 5) (.c (.bool true)) (.t 7)⟩])
  (.cond (.t 8) (.seq (.reg [⟨(some 2), 32, none, .mv (.c (.str []))⟩])
  .ret) .skip))
  (.seq (.reg [⟨(some 9), 144, none, .mv (.t 0)⟩,
    ⟨(some 10), 160, none, .iaa 5 1 (.c (.rp 1 [(.str []), (.str [108, 101, 97, 115, 116]), (.str [109, 111, 115, 116]), (.str [117, 112]), (.str [100, 111, 119, 110])])) (.t 9)⟩,
    ⟨(some 11), 176, none, .ld 1 false (.t 10)⟩,
    ⟨(some 2), 32, none, .mv (.t 11)⟩])
  .ret)))
theorem fits13 : fits Tryz.prog false Tryz.f13 1 12 [(2, none)] = some c13.er := by kernel_rfl
theorem kind_cases {k : Int} (h : 0 ≤ k ∧ k < 5) : k = 0 ∨ k = 1 ∨ k = 2 ∨ k = 3 ∨ k = 4 := by omega
theorem kindW_out {k : Int} (h : k < 1 ∨ 4 < k) : kindW k = [] := by
  unfold kindW
  rw [if_neg (by omega), if_neg (by omega), if_neg (by omega), if_neg (by omega)]
theorem call13 (k : Int) : PureCall Tryz.prog 13 [.int .i64 k] [] ⟨.str (kindW k), [], []⟩ := by
  refine pure_call mix Tryz.func13 fits13 rfl ?_
  conv => whnf
  refine ⟨?_, fun hc => ?_, fun hc => ?_⟩
  · exact g0
  · simp only [bp] at hc
    rw [kindW_out (by omega)]
    conv => whnf
    exact ret
  · simp only [bp] at hc
    rcases kind_cases (k := k) (by omega) with rfl | rfl | rfl | rfl | rfl
    · rw [show kindW 0 = [] from rfl]
      conv => whnf
      exact ret
    · rw [show kindW 1 = wLeast from rfl]
      conv => whnf
      exact ret
    · rw [show kindW 2 = wMost from rfl]
      conv => whnf
      exact ret
    · rw [show kindW 3 = wUp from rfl]
      conv => whnf
      exact ret
    · rw [show kindW 4 = wDown from rfl]
      conv => whnf
      exact ret
end Pv
end Go.Proofs.YtknidebojogodaaGreatDoor
/- LAW 13, THE WALKS: words of kinds; a line's words as a condition, second form. -/
set_option linter.unusedSimpArgs false
set_option linter.unusedVariables false
namespace Go.Proofs.YtknidebojogodaaGreatDoor
namespace Pv
def c14 : C := (.seq (.reg [⟨(some 2), 32, none, .mv (.c (.str []))⟩])
  (.seq (.seq (.reg [⟨(some 3), 48, none, .mv (.t 0)⟩,
    ⟨(some 4), 64, none, .bi false .lss (.t 3) (.c (.int .i64 1))⟩,
    ⟨(some 5), 80, none, .mv (.t 4)⟩,
    ⟨(some 6), 96, (some (5, false)), .mv (.t 0)⟩,
    ⟨(some 7), 112, (some (5, false)), .bi false .gtr (.t 6) (.c (.int .i64 4))⟩,
    ⟨(some 8), 128, none, .pick (.t 5) (.c (.bool true)) (.t 7)⟩])
  (.cond (.t 8) (.seq (.reg [⟨(some 2), 32, none, .mv (.c (.str []))⟩])
  .ret) .skip))
  (.seq (.reg [⟨(some 9), 144, none, .bs 9 1 [(.c (.str [108, 101, 97, 115, 116])), (.c (.str [109, 111, 115, 116])), (.c (.str [117, 112])), (.c (.str [100, 111, 119, 110]))]⟩,
    ⟨(some 10), 160, none, .mv (.t 0)⟩,
    ⟨(some 11), 176, none, .bi false .sub (.t 10) (.c (.int .i64 1))⟩,
    ⟨(some 12), 192, none, .ia 1 (.t 9) (.t 11)⟩,
    ⟨(some 13), 208, none, .ld 1 false (.t 12)⟩,
    ⟨(some 2), 32, none, .mv (.t 13)⟩])
  .ret)))
theorem fits14 : fits Tryz.prog false Tryz.f14 1 14 [(2, none)] = some c14.er := by kernel_rfl
def c12 : C := (.seq (.reg [⟨(some 2), 32, none, .mv (.c (.nil 1))⟩])
  (.seq (.reg [⟨(some 3), 48, none, .mv (.t 0)⟩,
    ⟨(some 4), 64, none, .call (.c (.fn (.func 33) [] [])) [(.t 3)]⟩,
    ⟨(some 2), 32, none, .mv (.t 4)⟩])
  .ret))
theorem fits12 : fits Tryz.prog false Tryz.f12 1 5 [(2, none)] = some c12.er := by kernel_rfl
def c58L1 : C := (.seq (.reg [⟨(some 20), 320, none, .bi false .lss (.t 19) (.t 18)⟩])
  (.seq (.cond (.t 20) .skip (.exit 0))
  (.seq (.block 1 (.seq (.reg [⟨(some 21), 336, none, .ia 1 (.t 17) (.t 19)⟩,
    ⟨(some 22), 352, none, .ld 1 false (.t 21)⟩,
    ⟨(some 8), 128, none, .mv (.t 22)⟩])
  (.seq (.reg [⟨(some 24), 384, none, .mv (.t 8)⟩,
    ⟨(some 25), 400, none, .call (.c (.fn (.func 74) [] [])) [(.t 24)]⟩,
    ⟨(some 23), 368, none, .mv (.t 25)⟩,
    ⟨(some 26), 416, none, .ex (.t 23) 0⟩,
    ⟨(some 27), 432, none, .ex (.t 23) 1⟩,
    ⟨(some 9), 144, none, .mv (.t 26)⟩,
    ⟨(some 10), 160, none, .mv (.t 27)⟩])
  (.seq (.seq (.reg [⟨(some 28), 448, none, .mv (.t 10)⟩,
    ⟨(some 29), 464, none, .un false .not (.t 28)⟩])
  (.cond (.t 29) (.seq (.reg [⟨(some 4), 64, none, .mv (.c (.nil 1))⟩,
    ⟨(some 5), 80, none, .mv (.c (.bool false))⟩])
  .ret) .skip))
  (.reg [⟨(some 30), 480, none, .mv (.t 6)⟩,
    ⟨(some 31), 496, none, .mv (.t 9)⟩,
    ⟨(some 32), 512, none, .bs 3 1 [(.t 31)]⟩,
    ⟨(some 33), 528, none, .app 3 1 8 (.t 30) (.t 32)⟩,
    ⟨(some 6), 96, none, .mv (.t 33)⟩])))))
  (.reg [⟨(some 34), 544, none, .bi false .add (.t 19) (.c (.int .i64 1))⟩,
    ⟨(some 19), 304, none, .mv (.t 34)⟩]))))
def c58 : C := (.seq (.reg [⟨(some 4), 64, none, .mv (.c (.nil 1))⟩,
    ⟨(some 5), 80, none, .mv (.c (.bool false))⟩])
  (.seq (.seq (.reg [⟨(some 11), 176, none, .mv (.t 0)⟩,
    ⟨(some 12), 192, none, .len (.t 11)⟩,
    ⟨(some 13), 208, none, .mv (.t 1)⟩,
    ⟨(some 14), 224, none, .bi false .lss (.t 12) (.t 13)⟩])
  (.cond (.t 14) (.seq (.reg [⟨(some 4), 64, none, .mv (.c (.nil 1))⟩,
    ⟨(some 5), 80, none, .mv (.c (.bool false))⟩])
  .ret) .skip))
  (.seq (.reg [⟨(some 6), 96, none, .mv (.c (.nil 1))⟩])
  (.seq (.seq (.reg [⟨(some 15), 240, none, .mv (.t 0)⟩,
    ⟨(some 16), 256, none, .mv (.t 1)⟩,
    ⟨(some 17), 272, none, .slc 1 (.t 15) none (some (.t 16))⟩,
    ⟨(some 18), 288, none, .len (.t 17)⟩,
    ⟨(some 19), 304, none, .mv (.c (.int .i64 0))⟩])
  (.block 0 (.loop c58L1)))
  (.seq (.reg [⟨(some 35), 560, none, .mv (.t 6)⟩,
    ⟨(some 4), 64, none, .mv (.t 35)⟩,
    ⟨(some 5), 80, none, .mv (.c (.bool true))⟩])
  .ret)))))
theorem fits58 : fits Tryz.prog false Tryz.f58 2 36 [(4, none), (5, none)] = some c58.er := by kernel_rfl
def c40 : C := (.seq (.reg [⟨(some 2), 32, none, .mv (.c (.bool false))⟩])
  (.seq (.reg [⟨(some 3), 48, none, .mv (.t 0)⟩,
    ⟨(some 4), 64, none, .len (.t 3)⟩,
    ⟨(some 5), 80, none, .bi false .gtr (.t 4) (.c (.int .i64 0))⟩,
    ⟨(some 6), 96, none, .mv (.t 5)⟩,
    ⟨(some 7), 112, (some (6, true)), .mv (.t 0)⟩,
    ⟨(some 8), 128, (some (6, true)), .ia 1 (.t 7) (.c (.int .i64 0))⟩,
    ⟨(some 9), 144, (some (6, true)), .ld 1 false (.t 8)⟩,
    ⟨(some 10), 160, (some (6, true)), .ixs (.t 9) (.c (.int .i64 0))⟩,
    ⟨(some 11), 176, (some (6, true)), .bi false .neq (.t 10) (.c (.int .u8 35))⟩,
    ⟨(some 12), 192, none, .pick (.t 6) (.t 11) (.c (.bool false))⟩,
    ⟨(some 2), 32, none, .mv (.t 12)⟩])
  .ret))
theorem fits40 : fits Tryz.prog false Tryz.f40 1 13 [(2, none)] = some c40.er := by kernel_rfl
theorem call14 (k : Int) : PureCall Tryz.prog 14 [.int .i64 k] [] ⟨.str (kindW k), [], []⟩ := by
  refine pure_call mix Tryz.func14 fits14 rfl ?_
  conv => whnf
  refine ⟨?_, fun hc => ?_, fun hc => ?_⟩
  · exact g0
  · simp only [bp] at hc
    rw [kindW_out (by omega)]
    conv => whnf
    exact ret
  · simp only [bp] at hc
    rcases kind_cases (k := k) (by omega) with rfl | rfl | rfl | rfl | rfl
    · exact absurd hc (by decide)
    · rw [show kindW 1 = wLeast from rfl]
      conv => whnf
      exact ret
    · rw [show kindW 2 = wMost from rfl]
      conv => whnf
      exact ret
    · rw [show kindW 3 = wUp from rfl]
      conv => whnf
      exact ret
    · rw [show kindW 4 = wDown from rfl]
      conv => whnf
      exact ret
theorem call12 (s : List UInt8) (h : s.length ≤ 65536) : PureCall Tryz.prog 12 [.str s] [] ⟨.os 1000000000, [], [.row 0 9 1 (wordsB isBl s).length (fl eStr (wordsB isBl s))]⟩ := by
  refine pure_call mix Tryz.func12 fits12 rfl ?_
  conv => whnf
  refine ⟨_, fun _ => call33 s h, ?_⟩
  conv => whnf
  refine ⟨?_, [64], ?_⟩
  · exact g0
  conv => whnf
  refine ⟨rfl, ?_, trivial, ?_⟩ <;> exact ent
theorem call40 (τ : Nat) (w : List (List UInt8)) (hw : ∀ x ∈ w, WordOK isBl x) : PureCall Tryz.prog 40 [.sl τ 1 w.length (fl eStr w)] [] ⟨.bool (cntd w), [], []⟩ := by
  refine pure_call mix Tryz.func40 fits40 rfl ?_
  cases w with
  | nil =>
    conv => whnf
    exact ret
  | cons x r =>
    have hx := (hw x (List.mem_cons_self ..)).1
    have hxl : 0 < x.length := List.length_pos_iff.2 hx
    have h35 : (((x.getD 0 0).toNat : Int) != 35) = cntd (x :: r) := by
      show _ = !(x.getD 0 0 == 35)
      rw [Bool.eq_iff_iff]
      simp only [bne_iff_ne, ne_eq, Bool.not_eq_true', beq_eq_false_iff_ne]
      constructor
      · intro h e; rw [e] at h; exact h rfl
      · intro h e; exact h (UInt8.toNat_inj.1 (by show _ = 35; omega))
    rw [← h35]
    have hd : decide ((0 : Int) < (((x :: r).length : Nat) : Int)) = true := decide_eq_true (by rw [List.length_cons]; omega)
    conv => whnf
    refine ⟨?_, [], ?_⟩
    · exact g1
    conv => whnf
    refine ⟨rfl, ?_, trivial, trivial⟩
    show PLe _ _ _ _
    conv => whnf
    rw [hd]; rfl
def numsL : List (List UInt8) → Option (List Int)
  | [] => some []
  | x :: r => match numF x with
    | none => none
    | some v => (numsL r).map (v :: ·)
def numsR (w : List (List UInt8)) (n : Nat) : Option (List Int) := if w.length < n then none else numsL (w.take n)
theorem numsL_drop {v : List (List UInt8)} {i : Nat} (h : i < v.length) : numsL (v.drop i) = match numF (v.getD i default) with
    | none => none
    | some a => (numsL (v.drop (i + 1))).map (a :: ·) := by
  rw [List.drop_eq_getElem_cons h]
  have : v.getD i default = v[i] := by simp [List.getD, h]
  rw [this]; rfl
set_option maxRecDepth 100000 in
set_option maxHeartbeats 4000000 in
theorem call58 (τ : Nat) (w : List (List UInt8)) (n : Nat) (hn : n ≤ 1000) (hw : wLens w) : PureCall Tryz.prog 58 [.sl τ 1 w.length (fl eStr w), .int .i64 n] [] ⟨.tup [.sl 0 1 ((numsR w n).getD []).length (fl eInt ((numsR w n).getD [])), .bool (numsR w n).isSome], [], []⟩ := by
  refine pure_call mix Tryz.func58 fits58 rfl ?_
  have hnn : ((n : Int)).toNat = n := by omega
  unfold numsR
  conv => whnf
  refine ⟨trivial, fun hc => ?_, fun hc => ?_⟩
  · simp only [bp] at hc
    rw [if_pos (by omega)]
    conv => whnf
    exact ret
  simp only [bp] at hc
  rw [if_neg (by omega)]
  have hvl : (w.take n).length = n := by rw [List.length_take]; omega
  have hvg : ∀ i, i < n → (w.take n).getD i default = w.getD i default := fun i hi => by
    simp only [List.getD, List.getElem?_take, if_pos hi]
  have hvs : ∀ i, i < n → (w.getD i default).length ≤ 65536 := fun i hi => hw.2 _ (getD_mem (by omega))
  generalize w.take n = v at hvl hvg ⊢
  conv => whnf
  refine ⟨?_, ?_⟩
  · exact g0
  refine LSem.adopt 6 1000000 3 1 1 rfl rfl ?_
  refine LSem.loop (n := 36) mix (α := Nat × List Int) (fun x => x.1 ≤ n ∧ x.2.length = x.1 ∧ (numsL (v.drop x.1)).map (x.2 ++ ·) = numsL v)
    (fun x => [(6, .os 1000000), (17, .sl τ 1 n (fl eStr w)), (18, .int .i64 n), (19, .int .i64 x.1)])
    (fun x => [(1000000, .row 0 3 1 x.2.length (fl eInt x.2))]) (fun x => n - x.1) (0, []) ?_ ?_ ?_
  · refine ⟨Nat.zero_le _, rfl, ?_⟩
    show (numsL v).map (fun l => [] ++ l) = numsL v
    cases numsL v <;> rfl
  · refine ⟨rfl, rfl, ?_, ?_⟩ <;> exact ent
  · rintro ⟨i, out⟩ ⟨hi, ho, hp⟩
    dsimp only at hi ho hp
    have hj : ((i : Int)).toNat = i := by omega
    conv => whnf
    refine ⟨trivial, fun hc3 => ?_, fun hc3 => ?_⟩
    · replace hc3 := of_decide_eq_true hc3
      have hlt : i < n := by
        have h : (i : Int) < n := hc3
        omega
      rw [numsL_drop (by omega), hvg i hlt] at hp
      have hsl := hvs i hlt
      conv => whnf
      dsimp only
      rw [hj]
      generalize w.getD i default = x at hp hsl ⊢
      refine ⟨_, fun _ => call74 x (by omega), ?_⟩
      cases hx : numF x with
      | none =>
        rw [hx] at hp
        rw [← show (none : Option (List Int)) = numsL v from hp]
        conv => whnf
        refine ⟨?_, fun h1 => ?_, fun h1 => (by cases h1)⟩
        · exact g0
        conv => whnf
        exact ret
      | some a =>
        rw [hx] at hp
        have q := fl_push eInt out a
        conv => whnf
        refine ⟨?_, fun h1 => (by cases h1), fun h1 => ?_⟩
        · exact g0
        conv => whnf
        refine ⟨?_, (i + 1, out ++ [a]), ⟨hlt, by dsimp only; simp [ho], ?_⟩, ?_, rfl, rfl, ?_, ?_⟩
        · exact g0
        · dsimp only
          rw [← hp]
          dsimp only
          rw [Option.map_map]
          congr 1
          funext l
          simp
        · dsimp only; omega
        · exact ent
        · exact ent
    · replace hc3 := of_decide_eq_false hc3
      have hk : i = n := by
        have h : ¬ (i : Int) < n := hc3
        omega
      subst hk
      rw [List.drop_of_length_le (by omega)] at hp
      have hp2 : some out = numsL v := by
        rw [← hp]; show some out = some (out ++ []); rw [List.append_nil]
      rw [← hp2]
      conv => whnf
      exact ret
end Pv
end Go.Proofs.YtknidebojogodaaGreatDoor
/- LAW 13, THE WALKS: a line's words as a condition, second form. -/
set_option linter.unusedSimpArgs false
set_option linter.unusedVariables false
namespace Go.Proofs.YtknidebojogodaaGreatDoor
namespace Pv
def c41L1 : C := (.seq (.seq (.reg [⟨(some 55), 880, none, .mv (.t 9)⟩,
    ⟨(some 56), 896, none, .bi false .leq (.t 55) (.c (.int .i64 4))⟩])
  (.cond (.t 56) .skip (.exit 0)))
  (.seq (.block 1 (.seq (.drw [⟨(some 59), 944, none, .mv (.t 9)⟩,
    ⟨(some 60), 960, none, .call (.c (.fn (.func 14) [] [])) [(.t 59)]⟩,
    ⟨(some 61), 976, none, .mv (.t 0)⟩,
    ⟨(some 62), 992, none, .ia 1 (.t 61) (.c (.int .i64 2))⟩,
    ⟨(some 63), 1008, none, .ld 1 false (.t 62)⟩,
    ⟨(some 64), 1024, none, .bi false .eql (.t 60) (.t 63)⟩]
    [(0, 2, 59), (0, 3, 59), (0, 4, 59), (1, 2, 60), (1, 3, 60), (1, 4, 60)])
  (.cond (.t 64) (.reg [⟨(some 65), 1040, none, .mv (.t 9)⟩,
    ⟨(some 66), 1056, none, .fa 1 (.t 4)⟩,
    ⟨none, 0, none, .st 1 (.t 66) (.t 65)⟩]) .skip)))
  (.reg [⟨(some 57), 912, none, .mv (.t 9)⟩,
    ⟨(some 58), 928, none, .bi false .add (.t 57) (.c (.int .i64 1))⟩,
    ⟨(some 9), 144, none, .mv (.t 58)⟩])))
def c41L2 : C := (.seq (.seq (.reg [⟨(some 73), 1168, none, .mv (.t 0)⟩,
    ⟨(some 74), 1184, none, .len (.t 73)⟩,
    ⟨(some 75), 1200, none, .bi false .gtr (.t 74) (.c (.int .i64 0))⟩])
  (.cond (.t 75) .skip (.exit 2)))
  (.block 3 (.seq (.reg [⟨(some 13), 208, none, .mv (.c (.int .i64 1))⟩])
  (.seq (.seq (.reg [⟨(some 76), 1216, none, .mv (.t 0)⟩,
    ⟨(some 77), 1232, none, .ia 1 (.t 76) (.c (.int .i64 0))⟩,
    ⟨(some 78), 1248, none, .ld 1 false (.t 77)⟩,
    ⟨(some 79), 1264, none, .bi false .eql (.t 78) (.c (.str [100, 97, 121, 115]))⟩])
  (.cond (.t 79) (.reg [⟨(some 13), 208, none, .mv (.c (.int .i64 2))⟩]) .skip))
  (.seq (.reg [⟨(some 81), 1296, none, .mv (.t 0)⟩,
    ⟨(some 82), 1312, none, .slc 1 (.t 81) (some (.c (.int .i64 1))) none⟩,
    ⟨(some 83), 1328, none, .mv (.t 13)⟩,
    ⟨(some 84), 1344, none, .call (.c (.fn (.func 58) [] [])) [(.t 82), (.t 83)]⟩,
    ⟨(some 80), 1280, none, .mv (.t 84)⟩,
    ⟨(some 85), 1360, none, .ex (.t 80) 0⟩,
    ⟨(some 86), 1376, none, .ex (.t 80) 1⟩,
    ⟨(some 14), 224, none, .mv (.t 85)⟩,
    ⟨(some 15), 240, none, .mv (.t 86)⟩])
  (.seq (.seq (.reg [⟨(some 87), 1392, none, .mv (.t 15)⟩,
    ⟨(some 88), 1408, none, .un false .not (.t 87)⟩])
  (.cond (.t 88) (.seq (.reg [⟨(some 89), 1424, none, .ld 7 true (.t 4)⟩,
    ⟨none, 0, none, .st 7 (.t 2) (.t 89)⟩,
    ⟨(some 3), 48, none, .mv (.c (.bool false))⟩])
  .ret) .skip))
  (.seq (.block 4 (.seq (.reg [⟨(some 92), 1472, none, .mv (.t 0)⟩,
    ⟨(some 93), 1488, none, .ia 1 (.t 92) (.c (.int .i64 0))⟩,
    ⟨(some 94), 1504, none, .ld 1 false (.t 93)⟩,
    ⟨(some 95), 1520, none, .bi false .eql (.t 94) (.c (.str [100, 97, 121, 115]))⟩,
    ⟨(some 96), 1536, none, .mv (.t 95)⟩,
    ⟨(some 97), 1552, (some (96, true)), .mv (.t 10)⟩,
    ⟨(some 98), 1568, (some (96, true)), .un false .not (.t 97)⟩,
    ⟨(some 99), 1584, none, .pick (.t 96) (.t 98) (.c (.bool false))⟩,
    ⟨(some 91), 1456, none, .mv (.t 99)⟩])
  (.cond (.t 91) (.drw [⟨(some 100), 1600, none, .mv (.t 14)⟩,
    ⟨(some 101), 1616, none, .ia 1 (.t 100) (.c (.int .i64 0))⟩,
    ⟨(some 102), 1632, none, .ld 1 false (.t 101)⟩,
    ⟨(some 103), 1648, none, .mv (.t 14)⟩,
    ⟨(some 104), 1664, none, .ia 1 (.t 103) (.c (.int .i64 1))⟩,
    ⟨(some 105), 1680, none, .ld 1 false (.t 104)⟩,
    ⟨(some 106), 1696, none, .bd [(.int .i64 0), (.int .i64 0)] [(0, 1, (.t 102)), (1, 1, (.t 105))]⟩,
    ⟨(some 107), 1712, none, .fa 3 (.t 4)⟩,
    ⟨none, 0, none, .st 2 (.t 107) (.t 106)⟩,
    ⟨(some 10), 160, none, .mv (.c (.bool true))⟩]
    [(0, 3, 100), (0, 4, 100), (0, 5, 100), (1, 3, 101), (1, 4, 101), (1, 5, 101), (2, 3, 102), (2, 4, 102), (2, 5, 102)]) (.seq (.reg [⟨(some 109), 1744, none, .mv (.t 0)⟩,
    ⟨(some 110), 1760, none, .ia 1 (.t 109) (.c (.int .i64 0))⟩,
    ⟨(some 111), 1776, none, .ld 1 false (.t 110)⟩,
    ⟨(some 112), 1792, none, .bi false .eql (.t 111) (.c (.str [97, 98, 111, 118, 101]))⟩,
    ⟨(some 113), 1808, none, .mv (.t 112)⟩,
    ⟨(some 114), 1824, (some (113, true)), .mv (.t 11)⟩,
    ⟨(some 115), 1840, (some (113, true)), .un false .not (.t 114)⟩,
    ⟨(some 116), 1856, none, .pick (.t 113) (.t 115) (.c (.bool false))⟩,
    ⟨(some 108), 1728, none, .mv (.t 116)⟩])
  (.cond (.t 108) (.reg [⟨(some 117), 1872, none, .mv (.t 14)⟩,
    ⟨(some 118), 1888, none, .ia 1 (.t 117) (.c (.int .i64 0))⟩,
    ⟨(some 119), 1904, none, .ld 1 false (.t 118)⟩,
    ⟨(some 120), 1920, none, .fa 5 (.t 4)⟩,
    ⟨none, 0, none, .st 1 (.t 120) (.t 119)⟩,
    ⟨(some 11), 176, none, .mv (.c (.bool true))⟩]) (.seq (.reg [⟨(some 122), 1952, none, .mv (.t 0)⟩,
    ⟨(some 123), 1968, none, .ia 1 (.t 122) (.c (.int .i64 0))⟩,
    ⟨(some 124), 1984, none, .ld 1 false (.t 123)⟩,
    ⟨(some 125), 2000, none, .bi false .eql (.t 124) (.c (.str [98, 101, 108, 111, 119]))⟩,
    ⟨(some 126), 2016, none, .mv (.t 125)⟩,
    ⟨(some 127), 2032, (some (126, true)), .mv (.t 12)⟩,
    ⟨(some 128), 2048, (some (126, true)), .un false .not (.t 127)⟩,
    ⟨(some 129), 2064, none, .pick (.t 126) (.t 128) (.c (.bool false))⟩,
    ⟨(some 121), 1936, none, .mv (.t 129)⟩])
  (.cond (.t 121) (.reg [⟨(some 130), 2080, none, .mv (.t 14)⟩,
    ⟨(some 131), 2096, none, .ia 1 (.t 130) (.c (.int .i64 0))⟩,
    ⟨(some 132), 2112, none, .ld 1 false (.t 131)⟩,
    ⟨(some 133), 2128, none, .fa 6 (.t 4)⟩,
    ⟨none, 0, none, .st 1 (.t 133) (.t 132)⟩,
    ⟨(some 12), 192, none, .mv (.c (.bool true))⟩]) (.seq (.reg [⟨(some 90), 1440, none, .ld 7 true (.t 4)⟩,
    ⟨none, 0, none, .st 7 (.t 2) (.t 90)⟩,
    ⟨(some 3), 48, none, .mv (.c (.bool false))⟩])
  .ret))))))))
  (.reg [⟨(some 134), 2144, none, .mv (.t 0)⟩,
    ⟨(some 135), 2160, none, .mv (.t 13)⟩,
    ⟨(some 136), 2176, none, .bi false .add (.c (.int .i64 1)) (.t 135)⟩,
    ⟨(some 137), 2192, none, .slc 1 (.t 134) (some (.t 136)) none⟩,
    ⟨(some 0), 0, none, .mv (.t 137)⟩]))))))))
def c41 : C := (.seq (.reg [⟨(some 2), 32, none, .al [(.int .i64 0), (.int .i64 0), (.int .i64 0), (.int .i64 0), (.int .i64 0), (.int .i64 0), (.int .i64 0)]⟩,
    ⟨(some 3), 48, none, .mv (.c (.bool false))⟩])
  (.seq (.reg [⟨(some 16), 256, none, .bd [(.int .i64 0), (.int .i64 0)] [(1, 1, (.c (.int .i64 364)))]⟩,
    ⟨(some 17), 272, none, .bd [(.int .i64 0), (.int .i64 0), (.int .i64 0), (.int .i64 0), (.int .i64 0), (.int .i64 0), (.int .i64 0)] [(3, 2, (.t 16)), (6, 1, (.c (.int .i64 16777216)))]⟩,
    ⟨(some 4), 64, none, .al [(.int .i64 0), (.int .i64 0), (.int .i64 0), (.int .i64 0), (.int .i64 0), (.int .i64 0), (.int .i64 0)]⟩,
    ⟨none, 0, none, .st 7 (.t 4) (.t 17)⟩])
  (.seq (.seq (.reg [⟨(some 18), 288, none, .mv (.t 0)⟩,
    ⟨(some 19), 304, none, .len (.t 18)⟩,
    ⟨(some 20), 320, none, .bi false .lss (.t 19) (.c (.int .i64 4))⟩,
    ⟨(some 21), 336, none, .mv (.t 20)⟩,
    ⟨(some 22), 352, (some (21, false)), .mv (.t 0)⟩,
    ⟨(some 23), 368, (some (21, false)), .ia 1 (.t 22) (.c (.int .i64 0))⟩,
    ⟨(some 24), 384, (some (21, false)), .ld 1 false (.t 23)⟩,
    ⟨(some 25), 400, (some (21, false)), .bi false .neq (.t 24) (.c (.str [114, 97, 110, 107]))⟩,
    ⟨(some 26), 416, none, .pick (.t 21) (.c (.bool true)) (.t 25)⟩])
  (.cond (.t 26) (.seq (.reg [⟨(some 27), 432, none, .ld 7 true (.t 4)⟩,
    ⟨none, 0, none, .st 7 (.t 2) (.t 27)⟩,
    ⟨(some 3), 48, none, .mv (.c (.bool false))⟩])
  .ret) .skip))
  (.seq (.reg [⟨(some 29), 464, none, .mv (.t 0)⟩,
    ⟨(some 30), 480, none, .slc 1 (.t 29) (some (.c (.int .i64 1))) none⟩,
    ⟨(some 31), 496, none, .call (.c (.fn (.func 58) [] [])) [(.t 30), (.c (.int .i64 1))]⟩,
    ⟨(some 28), 448, none, .mv (.t 31)⟩,
    ⟨(some 32), 512, none, .ex (.t 28) 0⟩,
    ⟨(some 33), 528, none, .ex (.t 28) 1⟩,
    ⟨(some 5), 80, none, .mv (.t 32)⟩,
    ⟨(some 6), 96, none, .mv (.t 33)⟩])
  (.seq (.reg [⟨(some 35), 560, none, .mv (.t 0)⟩,
    ⟨(some 36), 576, none, .slc 1 (.t 35) (some (.c (.int .i64 3))) none⟩,
    ⟨(some 37), 592, none, .call (.c (.fn (.func 58) [] [])) [(.t 36), (.c (.int .i64 1))]⟩,
    ⟨(some 34), 544, none, .mv (.t 37)⟩,
    ⟨(some 38), 608, none, .ex (.t 34) 0⟩,
    ⟨(some 39), 624, none, .ex (.t 34) 1⟩,
    ⟨(some 7), 112, none, .mv (.t 38)⟩,
    ⟨(some 8), 128, none, .mv (.t 39)⟩])
  (.seq (.seq (.reg [⟨(some 40), 640, none, .mv (.t 6)⟩,
    ⟨(some 41), 656, none, .un false .not (.t 40)⟩,
    ⟨(some 42), 672, none, .mv (.t 41)⟩,
    ⟨(some 43), 688, (some (42, false)), .mv (.t 8)⟩,
    ⟨(some 44), 704, (some (42, false)), .un false .not (.t 43)⟩,
    ⟨(some 45), 720, none, .pick (.t 42) (.c (.bool true)) (.t 44)⟩])
  (.cond (.t 45) (.seq (.reg [⟨(some 46), 736, none, .ld 7 true (.t 4)⟩,
    ⟨none, 0, none, .st 7 (.t 2) (.t 46)⟩,
    ⟨(some 3), 48, none, .mv (.c (.bool false))⟩])
  .ret) .skip))
  (.seq (.drw [⟨(some 47), 752, none, .mv (.t 5)⟩,
    ⟨(some 48), 768, none, .ia 1 (.t 47) (.c (.int .i64 0))⟩,
    ⟨(some 49), 784, none, .ld 1 false (.t 48)⟩,
    ⟨(some 50), 800, none, .mv (.t 7)⟩,
    ⟨(some 51), 816, none, .ia 1 (.t 50) (.c (.int .i64 0))⟩,
    ⟨(some 52), 832, none, .ld 1 false (.t 51)⟩,
    ⟨(some 53), 848, none, .fa 0 (.t 4)⟩,
    ⟨none, 0, none, .st 1 (.t 53) (.t 49)⟩,
    ⟨(some 54), 864, none, .fa 2 (.t 4)⟩,
    ⟨none, 0, none, .st 1 (.t 54) (.t 52)⟩]
    [(0, 3, 47), (0, 4, 47), (0, 5, 47), (1, 3, 48), (1, 4, 48), (1, 5, 48), (2, 3, 49), (2, 4, 49), (2, 5, 49), (3, 6, 50), (3, 7, 50), (4, 6, 51), (4, 7, 51), (5, 6, 52), (5, 7, 52)])
  (.seq (.seq (.reg [⟨(some 9), 144, none, .mv (.c (.int .i64 1))⟩])
  (.block 0 (.loop c41L1)))
  (.seq (.seq (.reg [⟨(some 67), 1072, none, .fa 1 (.t 4)⟩,
    ⟨(some 68), 1088, none, .ld 1 false (.t 67)⟩,
    ⟨(some 69), 1104, none, .bi false .eql (.t 68) (.c (.int .i64 0))⟩])
  (.cond (.t 69) (.seq (.reg [⟨(some 70), 1120, none, .ld 7 true (.t 4)⟩,
    ⟨none, 0, none, .st 7 (.t 2) (.t 70)⟩,
    ⟨(some 3), 48, none, .mv (.c (.bool false))⟩])
  .ret) .skip))
  (.seq (.reg [⟨(some 10), 160, none, .mv (.c (.bool false))⟩,
    ⟨(some 11), 176, none, .mv (.c (.bool false))⟩,
    ⟨(some 12), 192, none, .mv (.c (.bool false))⟩])
  (.seq (.seq (.reg [⟨(some 71), 1136, none, .mv (.t 0)⟩,
    ⟨(some 72), 1152, none, .slc 1 (.t 71) (some (.c (.int .i64 4))) none⟩,
    ⟨(some 0), 0, none, .mv (.t 72)⟩])
  (.block 2 (.loop c41L2)))
  (.seq (.reg [⟨(some 138), 2208, none, .ld 7 true (.t 4)⟩,
    ⟨none, 0, none, .st 7 (.t 2) (.t 138)⟩,
    ⟨(some 3), 48, none, .mv (.c (.bool true))⟩])
  .ret))))))))))))
theorem fits41 : fits Tryz.prog false Tryz.f41 1 139 [(2, some (7, true)), (3, none)] = some c41.er := by kernel_rfl
def partsR : Nat → Cd → Bool → Bool → Bool → List (List UInt8) → Cd × Bool
  | 0, c, _, _, _, _ => (c, true)
  | n + 1, c, d, a, b, w => match w with
    | [] => (c, true)
    | x :: r => if x = wDays then (match numsR r 2 with
        | none => (c, false)
        | some l => if d = true then (c, false) else partsR n { c with f := l.getD 0 0, u := l.getD 1 0 } true a b (r.drop 2))
      else (match numsR r 1 with
        | none => (c, false)
        | some l => if x = wAbove then (if a = true then (c, false) else partsR n { c with a := l.getD 0 0 } d true b (r.drop 1))
          else if x = wBelow then (if b = true then (c, false) else partsR n { c with b := l.getD 0 0 } d a true (r.drop 1)) else (c, false))
def c00 : Cd := ⟨0, 0, 0, 0, 364, 0, 16777216⟩
def lineR (w : List (List UInt8)) : Cd × Bool := if w.length < 4 ∨ w.headD [] ≠ wRank then (c00, false) else match numsR (w.drop 1) 1, numsR (w.drop 3) 1 with
  | some la, some lb => if kindOf (w.getD 2 default) = 0 then (⟨la.getD 0 0, 0, lb.getD 0 0, 0, 364, 0, 16777216⟩, false) else partsR w.length ⟨la.getD 0 0, kindOf (w.getD 2 default), lb.getD 0 0, 0, 364, 0, 16777216⟩ false false false (w.drop 4)
  | _, _ => (c00, false)
theorem fl_drop {α : Type} [Inhabited α] (e : α → List PV) (l : List α) (k i : Nat) : fl e l (k + i) = fl e (l.drop k) i := by
  simp only [fl, List.getD, List.getElem?_drop]
theorem numsL_len : ∀ {w : List (List UInt8)} {l : List Int}, numsL w = some l → l.length = w.length
  | [], l, h => by simp [numsL] at h; subst h; rfl
  | x :: r, l, h => by
    unfold numsL at h
    split at h
    · cases h
    · obtain ⟨l', h1, rfl⟩ := Option.map_eq_some_iff.1 h
      simp [numsL_len h1]
theorem numsR_len {w : List (List UInt8)} {n : Nat} {l : List Int} (h : numsR w n = some l) : l.length = n := by
  unfold numsR at h
  split at h
  · cases h
  · rw [numsL_len h, List.length_take]; omega
theorem numsR_le {w : List (List UInt8)} {n : Nat} {l : List Int} (h : numsR w n = some l) : n ≤ w.length := by
  unfold numsR at h
  split at h
  · cases h
  · omega
theorem wLens.drop {w : List (List UInt8)} (h : wLens w) (k : Nat) : wLens (w.drop k) := ⟨by have := h.1; rw [List.length_drop]; omega, fun x hx => h.2 x (List.mem_of_mem_drop hx)⟩
theorem kU_step (w : List UInt8) {k : Nat} (h : 1 ≤ k ∧ k ≤ 4) : kU w (k + 1) = if kindW k = w then (k : Int) else kU w k := by
  have hk : kindWords.getD k [] = kindW k := by
    have : k = 1 ∨ k = 2 ∨ k = 3 ∨ k = 4 := by omega
    rcases this with rfl | rfl | rfl | rfl <;> decide
  rw [show kU w (k + 1) = if 0 < k ∧ kindWords.getD k [] = w then (k : Int) else kU w k from rfl, hk]
  by_cases h2 : kindW k = w
  · rw [if_pos ⟨by omega, h2⟩, if_pos h2]
  · rw [if_neg (fun e => h2 e.2), if_neg h2]
set_option maxRecDepth 100000 in
set_option maxHeartbeats 8000000 in
theorem call41 (w : List (List UInt8)) (hw : wLens w) : PureCall Tryz.prog 41 [.sl 2 1 w.length (fl eStr w)] [] ⟨.tup [.agg (eCd (lineR w).1), .bool (lineR w).2], [], []⟩ := by
  refine pure_call mix Tryz.func41 fits41 rfl ?_
  unfold lineR
  have hw0 := hw.1
  conv => whnf
  refine ⟨?_, fun hc => ?_, fun hc => ?_⟩
  · exact g0
  · have h : w.length < 4 ∨ w.headD [] ≠ wRank := by
      simp only [bp] at hc
      rcases hc with h | h
      · exact .inl (by omega)
      · refine .inr fun e => h.2 ?_
        cases w with
        | nil => exact absurd h.1 (by simp)
        | cons x r => exact e
    rw [if_pos h]
    conv => whnf
    exact ret
  have h : ¬ (w.length < 4 ∨ w.headD [] ≠ wRank) := by
    simp only [bp] at hc
    rintro (h | h)
    · omega
    · cases w with
      | nil => exact absurd hc.1 (by simp)
      | cons x r => exact h hc.2
  rw [if_neg h]
  have h4 : 4 ≤ w.length := by omega
  clear hc h
  conv => whnf
  refine ⟨_, fun _ => PureCall.arg_le (call58 2 (w.drop 1) 1 (by omega) (hw.drop 1)) rfl ⟨⟨Nat.le_refl _, rfl, by rw [List.length_drop]; rfl, fun i _ => fl_drop eStr w 1 i⟩, ent, trivial⟩, ?_⟩
  conv => whnf
  refine ⟨_, fun _ => PureCall.arg_le (call58 2 (w.drop 3) 1 (by omega) (hw.drop 3)) rfl ⟨⟨Nat.le_refl _, rfl, by rw [List.length_drop]; rfl, fun i _ => fl_drop eStr w 3 i⟩, ent, trivial⟩, ?_⟩
  cases h1 : numsR (w.drop 1) 1 with
  | none =>
    conv => whnf
    refine ⟨?_, fun hc => ?_, fun hc => (by cases hc)⟩
    · exact g0
    conv => whnf
    exact ret
  | some la =>
    cases h2 : numsR (w.drop 3) 1 with
    | none =>
      conv => whnf
      refine ⟨?_, fun hc => ?_, fun hc => (by cases hc)⟩
      · exact g0
      conv => whnf
      exact ret
    | some lb =>
      obtain ⟨a, rfl⟩ := List.length_eq_one_iff.1 (numsR_len h1)
      obtain ⟨b, rfl⟩ := List.length_eq_one_iff.1 (numsR_len h2)
      dsimp only
      rw [show [a].getD 0 0 = a from rfl, show [b].getD 0 0 = b from rfl]
      conv => whnf
      refine ⟨?_, fun hc => (by cases hc), fun hc => ?_⟩
      · exact g0
      conv => whnf
      refine ⟨rfl, ?_⟩
      conv => whnf
      refine ⟨?_, ?_⟩
      · exact g0
      refine LSem.loop (n := 139) mix (α := Nat) (fun k => 1 ≤ k ∧ k ≤ 5)
        (fun k => [(0, .sl 2 1 w.length (fl eStr w)), (2, .pt 32 0 0), (4, .pt 64 0 0), (9, .int .i64 k)])
        (fun k => [(32, .box [.int .i64 0, .int .i64 0, .int .i64 0, .int .i64 0, .int .i64 0, .int .i64 0, .int .i64 0]), (64, .box (eCd ⟨a, kU (w.getD 2 default) k, b, 0, 364, 0, 16777216⟩))]) (fun k => 5 - k) 1 ?_ ?_ ?_
      · omega
      · refine ⟨rfl, rfl, ?_, ?_⟩ <;> exact ent
      · rintro k ⟨hk1, hk2⟩
        conv => whnf
        refine ⟨trivial, fun hc => ?_, fun hc => ?_⟩
        · replace hc := of_decide_eq_true hc
          have hk4 : k ≤ 4 := by
            have h : (k : Int) ≤ 4 := hc
            omega
          have hst := kU_step (w.getD 2 default) (k := k) ⟨hk1, hk4⟩
          conv => whnf
          refine ⟨_, fun _ => call14 k, ?_⟩
          conv => whnf
          refine ⟨rfl, ?_⟩
          conv => whnf
          refine ⟨?_, fun h => ?_, fun h => ?_⟩
          · exact g0
          · have he : kindW k = w.getD 2 default := eq_of_beq h
            rw [if_pos he] at hst
            have hst' := hst.symm
            conv => whnf
            refine ⟨?_, k + 1, by omega, by omega, rfl, rfl, ?_, ?_⟩
            · exact g0
            · exact ent
            · exact ent
          · have he : ¬ kindW k = w.getD 2 default := ne_of_beq_false h
            rw [if_neg he] at hst
            have hst' := hst.symm
            conv => whnf
            refine ⟨?_, k + 1, by omega, by omega, rfl, rfl, ?_, ?_⟩
            · exact g0
            · exact ent
            · exact ent
        · replace hc := of_decide_eq_false hc
          have hk5 : k = 5 := by
            have h : ¬ (k : Int) ≤ 4 := hc
            omega
          subst hk5
          rw [kU_kind]
          generalize kindOf (w.getD 2 default) = kd
          conv => whnf
          refine ⟨trivial, fun h => ?_, fun h => ?_⟩
          · simp only [bp] at h
            subst h
            rw [if_pos rfl]
            conv => whnf
            exact ret
          simp only [bp] at h
          rw [if_neg h]
          conv => whnf
          refine ⟨?_, ?_⟩
          · exact g0
          have hD : ∃ R, partsR w.length ⟨a, kd, b, 0, 364, 0, 16777216⟩ false false false (w.drop 4) = R := ⟨_, rfl⟩
          obtain ⟨R, hR⟩ := hD
          rw [hR]
          refine LSem.loop (n := 139) mix (α := (Nat × Cd × Bool × Bool × Bool) × List (List UInt8))
            (fun ⟨⟨n, c, d, a', b'⟩, v⟩ => wLens v ∧ v.length < n ∧ partsR n c d a' b' v = R)
            (fun ⟨⟨n, c, d, a', b'⟩, v⟩ => [(0, .sl 2 1 v.length (fl eStr v)), (2, .pt 32 0 0), (4, .pt 64 0 0), (10, .bool d), (11, .bool a'), (12, .bool b')])
            (fun ⟨⟨n, c, d, a', b'⟩, v⟩ => [(32, .box [.int .i64 0, .int .i64 0, .int .i64 0, .int .i64 0, .int .i64 0, .int .i64 0, .int .i64 0]), (64, .box (eCd c))]) (fun x => x.1.1)
            ((w.length, ⟨a, kd, b, 0, 364, 0, 16777216⟩, false, false, false), w.drop 4) ?_ ?_ ?_
          · exact ⟨hw.drop 4, by rw [List.length_drop]; omega, hR⟩
          · refine ⟨rfl, rfl, ?_, ?_⟩
            · refine leF_cons rfl ?_ ?_
              · show PLe _ _ _ _
                conv => whnf
                exact ⟨Nat.le_refl _, rfl, by rw [List.length_drop]; rfl, fun i _ => fl_drop eStr w 4 i⟩
              · exact ent
            · exact ent
          · rintro ⟨⟨n, c, d, a', b'⟩, v⟩ ⟨k1, k2, k3⟩
            obtain ⟨n, rfl⟩ : ∃ m, n = m + 1 := ⟨n - 1, by omega⟩
            cases v with
            | nil =>
              rw [← k3]
              conv => whnf
              refine ⟨trivial, fun hc => (by cases hc), fun hc => ?_⟩
              conv => whnf
              exact ret
            | cons x r =>
              have hr : wLens r := k1.drop 1
              have k2' : r.length < n := by rw [List.length_cons] at k2; omega
              have hpos : ¬ ¬ (0 : Int) < (((x :: r).length : Nat) : Int) := by rw [List.length_cons]; omega
              by_cases e1 : x = wDays
              · subst e1
                unfold partsR at k3
                dsimp only at k3
                rw [if_pos rfl] at k3
                conv => whnf
                refine ⟨trivial, fun hc => ?_, fun hc => absurd (of_decide_eq_false hc) hpos⟩
                conv => whnf
                refine ⟨?_, fun hc => ?_, fun hc => Bool.noConfusion (show true = false from hc)⟩
                · exact g0
                conv => whnf
                refine ⟨_, fun _ => PureCall.arg_le (call58 2 r 2 (by omega) hr) rfl ⟨⟨Nat.le_refl _, rfl, rfl, fun i _ => fl_drop eStr (wDays :: r) 1 i⟩, ent, trivial⟩, ?_⟩
                cases hN : numsR r 2 with
                | none =>
                  rw [hN] at k3
                  dsimp only at k3
                  rw [← k3]
                  conv => whnf
                  refine ⟨?_, fun hc => ?_, fun hc => Bool.noConfusion (show true = false from hc)⟩
                  · exact g0
                  conv => whnf
                  exact ret
                | some l =>
                  have hle := numsR_le hN
                  rw [hN] at k3
                  dsimp only at k3
                  have hl2 := numsR_len hN
                  obtain ⟨l0, l1, rfl⟩ : ∃ l0 l1, l = [l0, l1] := by
                    match l, hl2 with
                    | [l0, l1], _ => exact ⟨l0, l1, rfl⟩
                  conv => whnf
                  refine ⟨?_, fun hc => Bool.noConfusion (show false = true from hc), fun hc => ?_⟩
                  · exact g0
                  conv => whnf
                  cases d with
                  | true =>
                    rw [if_pos rfl] at k3
                    rw [← k3]
                    refine ⟨?_, fun hc => Bool.noConfusion (show false = true from hc), fun hc => ?_⟩
                    · exact g0
                    conv => whnf
                    refine ⟨?_, fun hc => Bool.noConfusion (show false = true from hc), fun hc => ?_⟩
                    · exact g0
                    conv => whnf
                    refine ⟨?_, fun hc => Bool.noConfusion (show false = true from hc), fun hc => ?_⟩
                    · exact g0
                    conv => whnf
                    exact ret
                  | false =>
                    rw [if_neg (by decide)] at k3
                    refine ⟨?_, fun hc => ?_, fun hc => Bool.noConfusion (show true = false from hc)⟩
                    · exact g0
                    conv => whnf
                    refine ⟨rfl, ?_⟩
                    conv => whnf
                    refine ⟨?_, ((n, { c with f := l0, u := l1 }, true, a', b'), r.drop 2), ⟨hr.drop 2, by rw [List.length_drop]; omega, k3⟩, Nat.lt_succ_self n, rfl, rfl, ?_, ?_⟩
                    · exact g0
                    · refine leF_cons rfl ?_ ?_
                      · show PLe _ _ _ _
                        conv => whnf
                        exact ⟨Nat.le_refl _, rfl, by rw [List.length_drop]; show r.length + 1 - 3 = _; omega, fun i _ => fl_drop eStr (wDays :: r) 3 i⟩
                      · exact ent
                    · exact ent
              by_cases e2 : x = wAbove
              · subst e2
                unfold partsR at k3
                dsimp only at k3
                rw [if_neg (by decide)] at k3
                conv => whnf
                refine ⟨trivial, fun hc => ?_, fun hc => absurd (of_decide_eq_false hc) hpos⟩
                conv => whnf
                refine ⟨?_, fun hc => Bool.noConfusion (show false = true from hc), fun hc => ?_⟩
                · exact g0
                conv => whnf
                refine ⟨_, fun _ => PureCall.arg_le (call58 2 r 1 (by omega) hr) rfl ⟨⟨Nat.le_refl _, rfl, rfl, fun i _ => fl_drop eStr (wAbove :: r) 1 i⟩, ent, trivial⟩, ?_⟩
                cases hN : numsR r 1 with
                | none =>
                  rw [hN] at k3
                  dsimp only at k3
                  rw [← k3]
                  conv => whnf
                  refine ⟨?_, fun hc => ?_, fun hc => Bool.noConfusion (show true = false from hc)⟩
                  · exact g0
                  conv => whnf
                  exact ret
                | some l =>
                  have hle := numsR_le hN
                  rw [hN] at k3
                  dsimp only at k3
                  obtain ⟨l0, rfl⟩ := List.length_eq_one_iff.1 (numsR_len hN)
                  rw [if_pos rfl] at k3
                  conv => whnf
                  refine ⟨?_, fun hc => Bool.noConfusion (show false = true from hc), fun hc => ?_⟩
                  · exact g0
                  conv => whnf
                  cases a' with
                  | true =>
                    rw [if_pos rfl] at k3
                    rw [← k3]
                    refine ⟨?_, fun hc => Bool.noConfusion (show false = true from hc), fun hc => ?_⟩
                    · exact g0
                    conv => whnf
                    refine ⟨?_, fun hc => Bool.noConfusion (show false = true from hc), fun hc => ?_⟩
                    · exact g0
                    conv => whnf
                    refine ⟨?_, fun hc => Bool.noConfusion (show false = true from hc), fun hc => ?_⟩
                    · exact g0
                    conv => whnf
                    exact ret
                  | false =>
                    rw [if_neg (by decide)] at k3
                    refine ⟨?_, fun hc => Bool.noConfusion (show false = true from hc), fun hc => ?_⟩
                    · exact g0
                    conv => whnf
                    refine ⟨?_, fun hc => ?_, fun hc => Bool.noConfusion (show true = false from hc)⟩
                    · exact g0
                    conv => whnf
                    refine ⟨?_, ((n, { c with a := l0 }, d, true, b'), r.drop 1), ⟨hr.drop 1, by rw [List.length_drop]; omega, k3⟩, Nat.lt_succ_self n, rfl, rfl, ?_, ?_⟩
                    · exact g0
                    · refine leF_cons rfl ?_ ?_
                      · show PLe _ _ _ _
                        conv => whnf
                        exact ⟨Nat.le_refl _, rfl, by rw [List.length_drop]; show r.length + 1 - 2 = _; omega, fun i _ => fl_drop eStr (wAbove :: r) 2 i⟩
                      · exact ent
                    · exact ent
              by_cases e3 : x = wBelow
              · subst e3
                unfold partsR at k3
                dsimp only at k3
                rw [if_neg (by decide)] at k3
                conv => whnf
                refine ⟨trivial, fun hc => ?_, fun hc => absurd (of_decide_eq_false hc) hpos⟩
                conv => whnf
                refine ⟨?_, fun hc => Bool.noConfusion (show false = true from hc), fun hc => ?_⟩
                · exact g0
                conv => whnf
                refine ⟨_, fun _ => PureCall.arg_le (call58 2 r 1 (by omega) hr) rfl ⟨⟨Nat.le_refl _, rfl, rfl, fun i _ => fl_drop eStr (wBelow :: r) 1 i⟩, ent, trivial⟩, ?_⟩
                cases hN : numsR r 1 with
                | none =>
                  rw [hN] at k3
                  dsimp only at k3
                  rw [← k3]
                  conv => whnf
                  refine ⟨?_, fun hc => ?_, fun hc => Bool.noConfusion (show true = false from hc)⟩
                  · exact g0
                  conv => whnf
                  exact ret
                | some l =>
                  have hle := numsR_le hN
                  rw [hN] at k3
                  dsimp only at k3
                  obtain ⟨l0, rfl⟩ := List.length_eq_one_iff.1 (numsR_len hN)
                  rw [if_neg (by decide), if_pos rfl] at k3
                  conv => whnf
                  refine ⟨?_, fun hc => Bool.noConfusion (show false = true from hc), fun hc => ?_⟩
                  · exact g0
                  conv => whnf
                  cases b' with
                  | true =>
                    rw [if_pos rfl] at k3
                    rw [← k3]
                    refine ⟨?_, fun hc => Bool.noConfusion (show false = true from hc), fun hc => ?_⟩
                    · exact g0
                    conv => whnf
                    refine ⟨?_, fun hc => Bool.noConfusion (show false = true from hc), fun hc => ?_⟩
                    · exact g0
                    conv => whnf
                    refine ⟨?_, fun hc => Bool.noConfusion (show false = true from hc), fun hc => ?_⟩
                    · exact g0
                    conv => whnf
                    exact ret
                  | false =>
                    rw [if_neg (by decide)] at k3
                    refine ⟨?_, fun hc => Bool.noConfusion (show false = true from hc), fun hc => ?_⟩
                    · exact g0
                    conv => whnf
                    refine ⟨?_, fun hc => Bool.noConfusion (show false = true from hc), fun hc => ?_⟩
                    · exact g0
                    conv => whnf
                    refine ⟨?_, fun hc => ?_, fun hc => Bool.noConfusion (show true = false from hc)⟩
                    · exact g0
                    conv => whnf
                    refine ⟨?_, ((n, { c with b := l0 }, d, a', true), r.drop 1), ⟨hr.drop 1, by rw [List.length_drop]; omega, k3⟩, Nat.lt_succ_self n, rfl, rfl, ?_, ?_⟩
                    · exact g0
                    · refine leF_cons rfl ?_ ?_
                      · show PLe _ _ _ _
                        conv => whnf
                        exact ⟨Nat.le_refl _, rfl, by rw [List.length_drop]; show r.length + 1 - 2 = _; omega, fun i _ => fl_drop eStr (wBelow :: r) 2 i⟩
                      · exact ent
                    · exact ent
              have F1 : ∀ z : List UInt8, x ≠ z → ∀ f : Bool, (bif (x == z) then f else false) = false := fun z hz f => by rw [beq_eq_false_iff_ne.2 hz]; rfl
              unfold partsR at k3
              dsimp only at k3
              rw [if_neg e1] at k3
              conv => whnf
              refine ⟨trivial, fun hc => ?_, fun hc => absurd (of_decide_eq_false hc) hpos⟩
              conv => whnf
              refine ⟨?_, fun hc => absurd (eq_of_beq hc) e1, fun hc => ?_⟩
              · exact g0
              conv => whnf
              refine ⟨_, fun _ => PureCall.arg_le (call58 2 r 1 (by omega) hr) rfl ⟨⟨Nat.le_refl _, rfl, rfl, fun i _ => fl_drop eStr (x :: r) 1 i⟩, ent, trivial⟩, ?_⟩
              cases hN : numsR r 1 with
              | none =>
                rw [hN] at k3
                dsimp only at k3
                rw [← k3]
                conv => whnf
                refine ⟨?_, fun hc => ?_, fun hc => Bool.noConfusion (show true = false from hc)⟩
                · exact g0
                conv => whnf
                exact ret
              | some l =>
                rw [hN] at k3
                dsimp only at k3
                rw [if_neg e2, if_neg e3] at k3
                rw [← k3]
                conv => whnf
                refine ⟨?_, fun hc => Bool.noConfusion (show false = true from hc), fun hc => ?_⟩
                · exact g0
                conv => whnf
                refine ⟨?_, fun hc => absurd (hc.symm.trans (F1 wDays e1 _)) (by decide), fun hc => ?_⟩
                · exact g0
                conv => whnf
                refine ⟨?_, fun hc => absurd (hc.symm.trans (F1 wAbove e2 _)) (by decide), fun hc => ?_⟩
                · exact g0
                conv => whnf
                refine ⟨?_, fun hc => absurd (hc.symm.trans (F1 wBelow e3 _)) (by decide), fun hc => ?_⟩
                · exact g0
                conv => whnf
                exact ret
end Pv
end Go.Proofs.YtknidebojogodaaGreatDoor
/- LAW 13, THE WALKS: a text's conditions, second form. -/
set_option linter.unusedSimpArgs false
set_option linter.unusedVariables false
namespace Go.Proofs.YtknidebojogodaaGreatDoor
namespace Pv
def c19L1 : C := (.seq (.reg [⟨(some 24), 384, none, .bi false .lss (.t 23) (.t 22)⟩])
  (.seq (.cond (.t 24) .skip (.exit 0))
  (.seq (.block 1 (.seq (.reg [⟨(some 25), 400, none, .ia 1 (.t 21) (.t 23)⟩,
    ⟨(some 26), 416, none, .ld 1 false (.t 25)⟩,
    ⟨(some 8), 128, none, .mv (.t 26)⟩])
  (.seq (.reg [⟨(some 27), 432, none, .mv (.t 8)⟩,
    ⟨(some 28), 448, none, .call (.c (.fn (.func 12) [] [])) [(.t 27)]⟩,
    ⟨(some 29), 464, none, .call (.c (.fn (.func 40) [] [])) [(.t 28)]⟩])
  (.cond (.t 29) (.reg [⟨(some 30), 480, none, .mv (.t 6)⟩,
    ⟨(some 31), 496, none, .bi false .add (.t 30) (.c (.int .i64 1))⟩,
    ⟨(some 6), 96, none, .mv (.t 31)⟩]) .skip))))
  (.reg [⟨(some 32), 512, none, .bi false .add (.t 23) (.c (.int .i64 1))⟩,
    ⟨(some 23), 368, none, .mv (.t 32)⟩]))))
def c19L2 : C := (.seq (.reg [⟨(some 38), 608, none, .bi false .lss (.t 37) (.t 36)⟩])
  (.seq (.cond (.t 38) .skip (.exit 2))
  (.seq (.block 3 (.seq (.reg [⟨(some 39), 624, none, .mv (.t 37)⟩,
    ⟨(some 40), 640, none, .ia 1 (.t 35) (.t 37)⟩,
    ⟨(some 41), 656, none, .ld 1 false (.t 40)⟩,
    ⟨(some 10), 160, none, .mv (.t 39)⟩,
    ⟨(some 11), 176, none, .mv (.t 41)⟩])
  (.seq (.reg [⟨(some 42), 672, none, .mv (.t 11)⟩,
    ⟨(some 43), 688, none, .call (.c (.fn (.func 12) [] [])) [(.t 42)]⟩,
    ⟨(some 12), 192, none, .mv (.t 43)⟩])
  (.seq (.seq (.reg [⟨(some 44), 704, none, .mv (.t 12)⟩,
    ⟨(some 45), 720, none, .call (.c (.fn (.func 40) [] [])) [(.t 44)]⟩,
    ⟨(some 46), 736, none, .un false .not (.t 45)⟩])
  (.cond (.t 46) (.exit 3) .skip))
  (.seq (.reg [⟨(some 48), 768, none, .mv (.t 12)⟩,
    ⟨(some 49), 784, none, .call (.c (.fn (.func 41) [] [])) [(.t 48)]⟩,
    ⟨(some 47), 752, none, .mv (.t 49)⟩,
    ⟨(some 50), 800, none, .ex (.t 47) 0⟩,
    ⟨(some 51), 816, none, .ex (.t 47) 1⟩,
    ⟨(some 13), 208, none, .al [(.int .i64 0), (.int .i64 0), (.int .i64 0), (.int .i64 0), (.int .i64 0), (.int .i64 0), (.int .i64 0)]⟩,
    ⟨none, 0, none, .st 7 (.t 13) (.t 50)⟩,
    ⟨(some 14), 224, none, .mv (.t 51)⟩])
  (.seq (.seq (.reg [⟨(some 52), 832, none, .mv (.t 14)⟩,
    ⟨(some 53), 848, none, .un false .not (.t 52)⟩])
  (.cond (.t 53) (.seq (.reg [⟨(some 54), 864, none, .mv (.t 10)⟩,
    ⟨(some 55), 880, none, .bi false .add (.t 54) (.c (.int .i64 1))⟩,
    ⟨(some 2), 32, none, .mv (.c (.nil 7))⟩,
    ⟨(some 3), 48, none, .mv (.t 55)⟩,
    ⟨(some 4), 64, none, .mv (.c (.int .i64 7))⟩])
  .ret) .skip))
  (.seq (.seq (.reg [⟨(some 56), 896, none, .ld 7 true (.t 13)⟩,
    ⟨(some 57), 912, none, .call (.c (.fn (.func 42) [] [])) [(.t 56)]⟩,
    ⟨(some 15), 240, none, .mv (.t 57)⟩])
  (.seq (.reg [⟨(some 58), 928, none, .mv (.t 15)⟩,
    ⟨(some 59), 944, none, .bi false .neq (.t 58) (.c (.int .i64 0))⟩])
  (.cond (.t 59) (.seq (.reg [⟨(some 60), 960, none, .mv (.t 10)⟩,
    ⟨(some 61), 976, none, .bi false .add (.t 60) (.c (.int .i64 1))⟩,
    ⟨(some 62), 992, none, .mv (.t 15)⟩,
    ⟨(some 2), 32, none, .mv (.c (.nil 7))⟩,
    ⟨(some 3), 48, none, .mv (.t 61)⟩,
    ⟨(some 4), 64, none, .mv (.t 62)⟩])
  .ret) .skip)))
  (.reg [⟨(some 63), 1008, none, .mv (.t 9)⟩,
    ⟨(some 64), 1024, none, .ld 7 true (.t 13)⟩,
    ⟨(some 65), 1040, none, .bs 49 7 [(.t 64)]⟩,
    ⟨(some 66), 1056, none, .app 49 7 56 (.t 63) (.t 65)⟩,
    ⟨(some 9), 144, none, .mv (.t 66)⟩]))))))))
  (.reg [⟨(some 67), 1072, none, .bi false .add (.t 37) (.c (.int .i64 1))⟩,
    ⟨(some 37), 592, none, .mv (.t 67)⟩]))))
def c19 : C := (.seq (.reg [⟨(some 2), 32, none, .mv (.c (.nil 7))⟩,
    ⟨(some 3), 48, none, .mv (.c (.int .i64 0))⟩,
    ⟨(some 4), 64, none, .mv (.c (.int .i64 0))⟩])
  (.seq (.seq (.reg [⟨(some 16), 256, none, .mv (.t 0)⟩,
    ⟨(some 17), 272, none, .lens (.t 16)⟩,
    ⟨(some 18), 288, none, .bi false .gtr (.t 17) (.c (.int .i64 65536))⟩])
  (.cond (.t 18) (.seq (.reg [⟨(some 2), 32, none, .mv (.c (.nil 7))⟩,
    ⟨(some 3), 48, none, .mv (.c (.int .i64 0))⟩,
    ⟨(some 4), 64, none, .mv (.c (.int .i64 10))⟩])
  .ret) .skip))
  (.seq (.reg [⟨(some 19), 304, none, .mv (.t 0)⟩,
    ⟨(some 20), 320, none, .call (.c (.fn (.func 39) [] [])) [(.t 19)]⟩,
    ⟨(some 5), 80, none, .mv (.t 20)⟩])
  (.seq (.reg [⟨(some 6), 96, none, .mv (.c (.int .i64 0))⟩])
  (.seq (.seq (.reg [⟨(some 21), 336, none, .mv (.t 5)⟩,
    ⟨(some 22), 352, none, .len (.t 21)⟩,
    ⟨(some 23), 368, none, .mv (.c (.int .i64 0))⟩])
  (.block 0 (.loop c19L1)))
  (.seq (.seq (.reg [⟨(some 33), 528, none, .mv (.t 6)⟩,
    ⟨(some 34), 544, none, .bi false .gtr (.t 33) (.c (.int .i64 200))⟩])
  (.cond (.t 34) (.seq (.reg [⟨(some 2), 32, none, .mv (.c (.nil 7))⟩,
    ⟨(some 3), 48, none, .mv (.c (.int .i64 0))⟩,
    ⟨(some 4), 64, none, .mv (.c (.int .i64 10))⟩])
  .ret) .skip))
  (.seq (.reg [⟨(some 9), 144, none, .mv (.c (.nil 7))⟩])
  (.seq (.seq (.reg [⟨(some 35), 560, none, .mv (.t 5)⟩,
    ⟨(some 36), 576, none, .len (.t 35)⟩,
    ⟨(some 37), 592, none, .mv (.c (.int .i64 0))⟩])
  (.block 2 (.loop c19L2)))
  (.seq (.reg [⟨(some 68), 1088, none, .mv (.t 9)⟩,
    ⟨(some 2), 32, none, .mv (.t 68)⟩,
    ⟨(some 3), 48, none, .mv (.c (.int .i64 0))⟩,
    ⟨(some 4), 64, none, .mv (.c (.int .i64 0))⟩])
  .ret)))))))))
theorem fits19 : fits Tryz.prog false Tryz.f19 1 69 [(2, none), (3, none), (4, none)] = some c19.er := by kernel_rfl
def cntC (W : List (List (List UInt8))) : Nat := (W.filter cntd).length
theorem cntC_le (W : List (List (List UInt8))) : cntC W ≤ W.length := List.length_filter_le _ _
theorem cntC_drop {W : List (List (List UInt8))} {i : Nat} (h : i < W.length) : cntC (W.take (i + 1)) = cntC (W.take i) + if cntd (W.getD i default) = true then 1 else 0 := by
  have : W.take (i + 1) = W.take i ++ [W.getD i default] := by rw [List.take_add_one, getD_some h]; rfl
  unfold cntC
  rw [this, List.filter_append, List.length_append]
  generalize W.getD i default = x
  cases h : cntd x <;> simp [h]
def parR : Int → List (List (List UInt8)) → List Cd → List Cd × Int × Int
  | _, [], out => (out, 0, 0)
  | i, w :: r, out => if cntd w = false then parR (i + 1) r out else if (lineR w).2 = false then ([], i + 1, 7) else if oneC (lineR w).1 ≠ 0 then ([], i + 1, oneC (lineR w).1) else parR (i + 1) r (out ++ [(lineR w).1])
def parseR (s : List UInt8) : List Cd × Int × Int := if 65536 < s.length then ([], 0, 10) else if 200 < cntC (linesW s) then ([], 0, 10) else parR 0 (linesW s) []
theorem parR_drop {W : List (List (List UInt8))} {i : Nat} (out : List Cd) (h : i < W.length) : parR (i : Int) (W.drop i) out = if cntd (W.getD i default) = false then parR ((i : Int) + 1) (W.drop (i + 1)) out else if (lineR (W.getD i default)).2 = false then ([], (i : Int) + 1, 7) else
    if oneC (lineR (W.getD i default)).1 ≠ 0 then ([], (i : Int) + 1, oneC (lineR (W.getD i default)).1) else parR ((i : Int) + 1) (W.drop (i + 1)) (out ++ [(lineR (W.getD i default)).1]) := by
  rw [List.drop_eq_getElem_cons h]
  have : W.getD i default = W[i] := by simp [List.getD, h]
  rw [this]; rfl
set_option maxRecDepth 100000 in
set_option maxHeartbeats 8000000 in
theorem call19 (s : List UInt8) (hs : s.length ≤ 4611686018427387904) : PureCall Tryz.prog 19 [.str s] [] ⟨.tup [.sl 0 7 (parseR s).1.length (fl eCd (parseR s).1), .int .i64 (parseR s).2.1, .int .i64 (parseR s).2.2], [], []⟩ := by
  refine pure_call mix Tryz.func19 fits19 rfl ?_
  conv => whnf
  refine ⟨?_, fun hc => ?_, fun hc => ?_⟩
  · exact g0
  · simp only [bp] at hc
    rw [show parseR s = ([], 0, 10) by unfold parseR; rw [if_pos (by omega)]]
    conv => whnf
    exact ret
  simp only [bp] at hc
  have hs2 : s.length ≤ 65536 := by omega
  have hSP : splitP isNl s = splitC 10 s := (splitC_P 10 s).symm
  obtain ⟨L, hL⟩ : ∃ L, L = splitC 10 s := ⟨_, rfl⟩
  obtain ⟨W, hW⟩ : ∃ W, W = linesW s := ⟨_, rfl⟩
  have hWl : W.length = L.length := by rw [hW, hL, linesW_len]
  have hLl : L.length ≤ 65537 := by have := (splitC_len 10 s).1; rw [← hL] at this; omega
  have hWg : ∀ i, i < L.length → W.getD i default = wordsB isBl (L.getD i default) := fun i hi => by
    rw [hW, linesW_getD (by rw [← hL]; exact hi), hL]
  have hLm : ∀ i, i < L.length → (L.getD i default).length ≤ 65536 := fun i hi => by
    have := (splitC_len 10 s).2 (L.getD i default) (by rw [← hL]; exact getD_mem hi); omega
  have hWm : ∀ i, i < L.length → wLens (W.getD i default) := fun i hi => by
    rw [hW]; exact linesW_lens hs2 _ (getD_mem (by rw [← hW]; omega))
  have hWo : ∀ i, i < L.length → ∀ x ∈ W.getD i default, WordOK isBl x := fun i hi => by
    rw [hWg i hi]; exact words_ok isBl _
  conv => whnf
  refine ⟨_, fun _ => call39 s hs2, ?_⟩
  rw [show parseR s = (if 65536 < s.length then ([], 0, 10) else if 200 < cntC (linesW s) then ([], 0, 10) else parR 0 (linesW s) []) from rfl, if_neg (by omega), hSP, ← hL, ← hW]
  conv => whnf
  refine ⟨?_, ?_⟩
  · exact g0
  refine LSem.loop (n := 69) mix (α := Nat) (fun i => i ≤ L.length)
    (fun i => [(5, .os 320), (6, .int .i64 (cntC (W.take i))), (21, .os 320), (22, .int .i64 L.length), (23, .int .i64 i)])
    (fun i => [(320, .row 0 9 1 L.length (fl eStr L))]) (fun i => L.length - i) 0 ?_ ?_ ?_
  · exact Nat.zero_le _
  · refine ⟨rfl, rfl, ?_, ?_⟩ <;> exact ent
  · intro i hi
    have hj : ((i : Int)).toNat = i := by omega
    conv => whnf
    refine ⟨trivial, fun hc => ?_, fun hc => ?_⟩
    · replace hc := of_decide_eq_true hc
      have hlt : i < L.length := by
        have h : (i : Int) < L.length := hc
        omega
      have hcd := cntC_drop (W := W) (i := i) (by omega)
      have hcl := cntC_le (W.take i)
      have htl : (W.take i).length = i := by rw [List.length_take]; omega
      have hWi := hWg i hlt
      conv => whnf
      rw [hj]
      refine ⟨_, fun _ => call12 (L.getD i default) (hLm i hlt), ?_⟩
      rw [← hWi]
      conv => whnf
      refine ⟨_, fun _ => call40 2 (W.getD i default) (hWo i hlt), ?_⟩
      conv => whnf
      refine ⟨?_, fun h => ?_, fun h => ?_⟩
      · exact g0
      · rw [if_pos h] at hcd
        conv => whnf
        refine ⟨?_, i + 1, hlt, by omega, rfl, rfl, ?_, ?_⟩
        · exact g0
        · exact ent
        · exact ent
      · rw [if_neg (by rw [h]; decide)] at hcd
        conv => whnf
        refine ⟨?_, i + 1, hlt, by omega, rfl, rfl, ?_, ?_⟩
        · exact g0
        · exact ent
        · exact ent
    · replace hc := of_decide_eq_false hc
      have hk : i = L.length := by
        have h : ¬ (i : Int) < L.length := hc
        omega
      subst hk
      rw [← hWl, List.take_length]
      conv => whnf
      refine ⟨trivial, fun h => ?_, fun h => ?_⟩
      · simp only [bp] at h
        rw [if_pos (by omega)]
        conv => whnf
        exact ret
      simp only [bp] at h
      rw [if_neg (by omega)]
      clear h hc
      conv => whnf
      refine ⟨trivial, ?_⟩
      refine LSem.adopt 9 1000000 49 7 7 rfl rfl ?_
      refine LSem.loop (n := 69) mix (α := Nat × List Cd) (fun x => x.1 ≤ L.length ∧ x.2.length ≤ x.1 ∧ parR (x.1 : Int) (W.drop x.1) x.2 = parR 0 W [])
        (fun x => [(9, .os 1000000), (35, .os 320), (36, .int .i64 L.length), (37, .int .i64 x.1)])
        (fun x => [(1000000, .row 0 49 7 x.2.length (fl eCd x.2)), (320, .row 0 9 1 L.length (fl eStr L))]) (fun x => L.length - x.1) (0, []) ?_ ?_ ?_
      · exact ⟨Nat.zero_le _, Nat.le_refl _, rfl⟩
      · refine ⟨rfl, rfl, ?_, ?_⟩ <;> exact ent
      · rintro ⟨i, out⟩ ⟨hi, ho, hp⟩
        dsimp only at hi ho hp
        have hj : ((i : Int)).toNat = i := by omega
        conv => whnf
        refine ⟨trivial, fun hc3 => ?_, fun hc3 => ?_⟩
        · replace hc3 := of_decide_eq_true hc3
          have hlt : i < L.length := by
            have h : (i : Int) < L.length := hc3
            omega
          have hw := hWm i hlt
          have hWi := hWg i hlt
          rw [parR_drop out (by omega)] at hp
          conv => whnf
          dsimp only
          rw [hj]
          refine ⟨_, fun _ => call12 (L.getD i default) (hLm i hlt), ?_⟩
          rw [← hWi]
          conv => whnf
          refine ⟨_, fun _ => call40 2 (W.getD i default) (hWo i hlt), ?_⟩
          conv => whnf
          refine ⟨?_, fun h => ?_, fun h => ?_⟩
          · exact g0
          · simp only [bp] at h
            rw [if_pos h] at hp
            conv => whnf
            refine ⟨?_, (i + 1, out), ⟨hlt, by dsimp only; omega, hp⟩, ?_, rfl, rfl, ?_, ?_⟩
            · exact g0
            · dsimp only; omega
            · exact ent
            · exact ent
          simp only [bp] at h
          rw [if_neg (by rw [h]; decide)] at hp
          conv => whnf
          refine ⟨_, fun _ => call41 (W.getD i default) hw, ?_⟩
          generalize lineR (W.getD i default) = R at hp ⊢
          conv => whnf
          refine ⟨?_, fun h1 => ?_, fun h1 => ?_⟩
          · exact g0
          · simp only [bp] at h1
            rw [if_pos h1] at hp
            rw [← hp]
            conv => whnf
            exact ret
          simp only [bp] at h1
          rw [if_neg (by rw [h1]; decide)] at hp
          conv => whnf
          refine ⟨_, fun _ => call42 R.1, ?_⟩
          conv => whnf
          refine ⟨?_, fun h2 => ?_, fun h2 => ?_⟩
          · exact g0
          · simp only [bp] at h2
            rw [if_pos h2] at hp
            rw [← hp]
            conv => whnf
            exact ret
          · simp only [bp] at h2
            rw [if_neg (by omega)] at hp
            have q := fl_push eCd out R.1
            conv => whnf
            refine ⟨?_, (i + 1, out ++ [R.1]), ⟨hlt, by dsimp only; rw [List.length_append]; simp only [List.length_cons, List.length_nil]; omega, hp⟩, ?_, rfl, rfl, ?_, ?_⟩
            · exact g0
            · dsimp only; omega
            · exact ent
            · exact ent
        · replace hc3 := of_decide_eq_false hc3
          have hk : i = L.length := by
            have h : ¬ (i : Int) < L.length := hc3
            omega
          subst hk
          rw [← hWl, List.drop_length] at hp
          have hp2 : (out, (0 : Int), (0 : Int)) = parR 0 W [] := hp
          rw [← hp2]
          conv => whnf
          exact ret
end Pv
end Go.Proofs.YtknidebojogodaaGreatDoor
/- LAW 13, PLAIN: the program and the reference read the same of any text. -/
set_option linter.unusedSimpArgs false
set_option linter.unusedVariables false
namespace Go.Proofs.YtknidebojogodaaGreatDoor
namespace Pv
theorem numsR_1 (y : List UInt8) (r : List (List UInt8)) : numsR (y :: r) 1 = (numF y).map fun v => [v] := by
  show (if (y :: r).length < 1 then none else numsL [y]) = _
  rw [if_neg (by simp)]
  show (match numF y with | none => none | some v => (numsL []).map (v :: ·)) = _
  cases numF y <;> rfl
theorem numsR_2 (y y2 : List UInt8) (r : List (List UInt8)) : numsR (y :: y2 :: r) 2 = (match numF y, numF y2 with | some a, some b => some [a, b] | _, _ => none) := by
  show (if (y :: y2 :: r).length < 2 then none else numsL [y, y2]) = _
  rw [if_neg (by simp)]
  show (match numF y with | none => none | some v => (match numF y2 with | none => none | some v => (numsL []).map (v :: ·)).map (v :: ·)) = _
  cases numF y <;> cases numF y2 <;> rfl
theorem numsR_nil (n : Nat) : numsR [] (n + 1) = none := rfl
theorem partsR_O (n : Nat) : ∀ (c : Cd) (d a b : Bool) (w : List (List UInt8)), w.length < n → outO (partsR n c d a b w) = partsO c d a b w := by
  induction n with
  | zero => intro c d a b w h; omega
  | succ n ih =>
    intro c d a b w h
    match w, h with
    | [], h => unfold partsR partsO; rfl
    | [x], h =>
      unfold partsR partsO
      dsimp only
      rw [numsR_nil, numsR_nil]
      split <;> rfl
    | x :: y :: r, h =>
      simp only [List.length_cons] at h
      unfold partsR partsO
      dsimp only
      by_cases e1 : x = wDays
      · rw [if_pos e1, if_pos e1]
        cases r with
        | nil =>
          rw [show numsR [y] 2 = none from rfl]
          cases d <;> rfl
        | cons y2 r2 =>
          simp only [List.length_cons] at h
          dsimp only
          rw [numsR_2]
          cases h1 : numF y with
          | none => cases d <;> rfl
          | some m =>
            cases h2 : numF y2 with
            | none => cases d <;> rfl
            | some k =>
              dsimp only
              cases d with
              | true => rfl
              | false =>
                rw [if_neg (by decide), if_neg (by decide)]
                exact ih _ _ _ _ _ (by show r2.length < n; omega)
      rw [if_neg e1, if_neg e1, numsR_1]
      by_cases e2 : x = wAbove
      · rw [if_pos e2]
        cases h1 : numF y with
        | none => cases a <;> rfl
        | some m =>
          dsimp only [Option.map_some]
          rw [if_pos e2]
          cases a with
          | true => rfl
          | false =>
            rw [if_neg (by decide), if_neg (by decide)]
            exact ih _ _ _ _ _ (by show r.length < n; omega)
      rw [if_neg e2]
      by_cases e3 : x = wBelow
      · rw [if_pos e3]
        cases h1 : numF y with
        | none => cases b <;> rfl
        | some m =>
          dsimp only [Option.map_some]
          rw [if_neg e2, if_pos e3]
          cases b with
          | true => rfl
          | false =>
            rw [if_neg (by decide), if_neg (by decide)]
            exact ih _ _ _ _ _ (by show r.length < n; omega)
      rw [if_neg e3]
      cases h1 : numF y with
      | none => rfl
      | some m =>
        dsimp only [Option.map_some]
        rw [if_neg e2, if_neg e3]; rfl
theorem lineR_O (w : List (List UInt8)) : outO (lineR w) = condO w := by
  unfold lineR
  match w with
  | [] => rfl
  | [_] => rw [if_pos (.inl (by simp))]; rfl
  | [_, _] => rw [if_pos (.inl (by simp))]; rfl
  | [_, _, _] => rw [if_pos (.inl (by simp))]; rfl
  | rk :: x :: kd :: y :: r =>
    unfold condO
    dsimp only
    by_cases e1 : rk = wRank
    · have hn : ¬ ((rk :: x :: kd :: y :: r).length < 4 ∨ (rk :: x :: kd :: y :: r).headD [] ≠ wRank) := by
        rintro (h | h)
        · simp only [List.length_cons] at h; omega
        · exact h e1
      rw [if_neg hn, if_pos e1]
      show outO (match numsR (x :: kd :: y :: r) 1, numsR (y :: r) 1 with | some la, some lb => _ | _, _ => _) = _
      rw [numsR_1, numsR_1]
      cases h1 : numF x with
      | none => rfl
      | some m =>
        cases h2 : numF y with
        | none => rfl
        | some k =>
          dsimp only [Option.map_some]
          rw [show (rk :: x :: kd :: y :: r).getD 2 default = kd from rfl]
          by_cases e2 : kindOf kd = 0
          · rw [if_pos e2, if_pos e2]; rfl
          · rw [if_neg e2, if_neg e2]
            exact partsR_O _ _ _ _ _ _ (by show r.length < _; simp only [List.length_cons]; omega)
    · rw [if_pos (.inr e1), if_neg e1]; rfl
theorem agree {w : List (List UInt8)} : (condG w).2 = (lineR w).2 ∧ ((lineR w).2 = true → (condG w).1 = (lineR w).1) := by
  have h := (condG_O w).trans (lineR_O w).symm
  unfold outO at h
  cases h1 : (condG w).2 <;> cases h2 : (lineR w).2 <;> rw [h1, h2] at h <;> simp at h ⊢
  exact h
theorem par_same : ∀ (W : List (List (List UInt8))) (i : Int) (out : List Cd), parG (linL i W) out = parR i W out
  | [], _, _ => rfl
  | w :: W, i, out => by
    unfold linL parR
    cases hc : cntd w with
    | false =>
      rw [if_neg (by decide), if_pos rfl]
      exact par_same W (i + 1) out
    | true =>
      rw [if_pos rfl, if_neg (by decide)]
      obtain ⟨a1, a2⟩ := agree (w := w)
      unfold parG
      dsimp only
      rw [a1]
      cases h2 : (lineR w).2 with
      | false => rw [if_pos rfl, if_pos rfl]
      | true =>
        rw [if_neg (show ¬ (true = false) by decide), a2 h2, if_neg (show ¬ (true = false) by decide)]
        split
        · rfl
        · exact par_same W (i + 1) _
theorem cnt_same : ∀ (W : List (List (List UInt8))) (i : Int), (linL i W).length = cntC W
  | [], _ => rfl
  | w :: W, i => by
    have ih := cnt_same W (i + 1)
    unfold linL
    unfold cntC at ih ⊢
    cases hc : cntd w with
    | false => rw [if_neg (by decide), List.filter_cons_of_neg (by simp [hc]), ih]
    | true => rw [if_pos rfl, List.filter_cons_of_pos hc, List.length_cons, List.length_cons, ih]
theorem parse_same (s : List UInt8) : parseG s = parseR s := by
  unfold parseG parseR
  rw [cnt_same, par_same]
end Pv
end Go.Proofs.YtknidebojogodaaGreatDoor
/- LAW 13, THE WALKS: conditions as text, second form. -/
set_option linter.unusedSimpArgs false
set_option linter.unusedVariables false
namespace Go.Proofs.YtknidebojogodaaGreatDoor
namespace Pv
def c10L1 : C := (.seq (.reg [⟨(some 16), 256, none, .bi false .lss (.t 15) (.t 14)⟩])
  (.seq (.cond (.t 16) .skip (.exit 0))
  (.seq (.block 1 (.seq (.reg [⟨(some 17), 272, none, .ia 7 (.t 13) (.t 15)⟩,
    ⟨(some 18), 288, none, .ld 7 true (.t 17)⟩,
    ⟨(some 7), 112, none, .al [(.int .i64 0), (.int .i64 0), (.int .i64 0), (.int .i64 0), (.int .i64 0), (.int .i64 0), (.int .i64 0)]⟩,
    ⟨none, 0, none, .st 7 (.t 7) (.t 18)⟩])
  (.seq (.drw [⟨(some 19), 304, none, .mv (.t 5)⟩,
    ⟨(some 20), 320, none, .fa 0 (.t 7)⟩,
    ⟨(some 21), 336, none, .ld 1 false (.t 20)⟩,
    ⟨(some 22), 352, none, .call (.c (.fn (.func 27) [] [])) [(.t 21)]⟩,
    ⟨(some 23), 368, none, .bi false .add (.c (.str [114, 97, 110, 107, 32])) (.t 22)⟩,
    ⟨(some 24), 384, none, .bi false .add (.t 23) (.c (.str [32]))⟩,
    ⟨(some 25), 400, none, .fa 1 (.t 7)⟩,
    ⟨(some 26), 416, none, .ld 1 false (.t 25)⟩,
    ⟨(some 27), 432, none, .call (.c (.fn (.func 14) [] [])) [(.t 26)]⟩,
    ⟨(some 28), 448, none, .bi false .add (.t 24) (.t 27)⟩,
    ⟨(some 29), 464, none, .bi false .add (.t 28) (.c (.str [32]))⟩,
    ⟨(some 30), 480, none, .fa 2 (.t 7)⟩,
    ⟨(some 31), 496, none, .ld 1 false (.t 30)⟩,
    ⟨(some 32), 512, none, .call (.c (.fn (.func 27) [] [])) [(.t 31)]⟩,
    ⟨(some 33), 528, none, .bi false .add (.t 29) (.t 32)⟩,
    ⟨(some 34), 544, none, .bi false .add (.t 19) (.t 33)⟩,
    ⟨(some 5), 80, none, .mv (.t 34)⟩]
    [(0, 1, 19), (0, 2, 19), (0, 3, 19), (0, 4, 19), (0, 5, 19), (0, 6, 19), (0, 7, 19), (0, 8, 19), (0, 9, 19), (0, 10, 19), (0, 11, 19), (0, 12, 19), (0, 13, 19), (0, 14, 19), (1, 6, 20), (1, 7, 20), (1, 11, 20), (1, 12, 20), (2, 6, 21), (2, 7, 21), (2, 11, 21), (2, 12, 21), (3, 6, 22), (3, 7, 22), (3, 11, 22), (3, 12, 22), (4, 6, 23), (4, 7, 23), (4, 8, 23), (4, 11, 23), (4, 12, 23), (4, 13, 23), (5, 6, 24), (5, 7, 24), (5, 8, 24), (5, 11, 24), (5, 12, 24), (5, 13, 24), (6, 11, 25), (6, 12, 25), (7, 11, 26), (7, 12, 26), (8, 11, 27), (8, 12, 27), (9, 11, 28), (9, 12, 28), (9, 13, 28), (10, 11, 29), (10, 12, 29), (10, 13, 29)])
  (.cut (.seq (.seq (.reg [⟨(some 35), 560, none, .fa 3 (.t 7)⟩,
    ⟨(some 36), 576, none, .ld 2 true (.t 35)⟩,
    ⟨(some 37), 592, none, .bd [(.int .i64 0), (.int .i64 0)] [(1, 1, (.c (.int .i64 364)))]⟩,
    ⟨(some 38), 608, none, .eqa true [0, 0] (.t 36) (.t 37)⟩])
  (.cond (.t 38) (.drw [⟨(some 39), 624, none, .mv (.t 5)⟩,
    ⟨(some 40), 640, none, .fa 3 (.t 7)⟩,
    ⟨(some 41), 656, none, .fa 0 (.t 40)⟩,
    ⟨(some 42), 672, none, .ld 1 false (.t 41)⟩,
    ⟨(some 43), 688, none, .call (.c (.fn (.func 27) [] [])) [(.t 42)]⟩,
    ⟨(some 44), 704, none, .bi false .add (.c (.str [32, 100, 97, 121, 115, 32])) (.t 43)⟩,
    ⟨(some 45), 720, none, .bi false .add (.t 44) (.c (.str [32]))⟩,
    ⟨(some 46), 736, none, .fa 3 (.t 7)⟩,
    ⟨(some 47), 752, none, .fa 1 (.t 46)⟩,
    ⟨(some 48), 768, none, .ld 1 false (.t 47)⟩,
    ⟨(some 49), 784, none, .call (.c (.fn (.func 27) [] [])) [(.t 48)]⟩,
    ⟨(some 50), 800, none, .bi false .add (.t 45) (.t 49)⟩,
    ⟨(some 51), 816, none, .bi false .add (.t 39) (.t 50)⟩,
    ⟨(some 5), 80, none, .mv (.t 51)⟩]
    [(0, 1, 39), (0, 2, 39), (0, 3, 39), (0, 4, 39), (0, 5, 39), (0, 6, 39), (0, 7, 39), (0, 8, 39), (0, 9, 39), (0, 10, 39), (0, 11, 39), (1, 7, 40), (1, 8, 40), (1, 9, 40), (2, 7, 41), (2, 8, 41), (2, 9, 41), (3, 7, 42), (3, 8, 42), (3, 9, 42), (4, 7, 43), (4, 8, 43), (4, 9, 43), (5, 7, 44), (5, 8, 44), (5, 9, 44), (5, 10, 44), (6, 7, 45), (6, 8, 45), (6, 9, 45), (6, 10, 45)]) .skip))
  (.cut (.seq (.seq (.reg [⟨(some 52), 832, none, .fa 5 (.t 7)⟩,
    ⟨(some 53), 848, none, .ld 1 false (.t 52)⟩,
    ⟨(some 54), 864, none, .bi false .neq (.t 53) (.c (.int .i64 0))⟩])
  (.cond (.t 54) (.reg [⟨(some 55), 880, none, .mv (.t 5)⟩,
    ⟨(some 56), 896, none, .fa 5 (.t 7)⟩,
    ⟨(some 57), 912, none, .ld 1 false (.t 56)⟩,
    ⟨(some 58), 928, none, .call (.c (.fn (.func 27) [] [])) [(.t 57)]⟩,
    ⟨(some 59), 944, none, .bi false .add (.c (.str [32, 97, 98, 111, 118, 101, 32])) (.t 58)⟩,
    ⟨(some 60), 960, none, .bi false .add (.t 55) (.t 59)⟩,
    ⟨(some 5), 80, none, .mv (.t 60)⟩]) .skip))
  (.cut (.seq (.seq (.reg [⟨(some 61), 976, none, .fa 6 (.t 7)⟩,
    ⟨(some 62), 992, none, .ld 1 false (.t 61)⟩,
    ⟨(some 63), 1008, none, .bi false .neq (.t 62) (.c (.int .i64 16777216))⟩])
  (.cond (.t 63) (.reg [⟨(some 64), 1024, none, .mv (.t 5)⟩,
    ⟨(some 65), 1040, none, .fa 6 (.t 7)⟩,
    ⟨(some 66), 1056, none, .ld 1 false (.t 65)⟩,
    ⟨(some 67), 1072, none, .call (.c (.fn (.func 27) [] [])) [(.t 66)]⟩,
    ⟨(some 68), 1088, none, .bi false .add (.c (.str [32, 98, 101, 108, 111, 119, 32])) (.t 67)⟩,
    ⟨(some 69), 1104, none, .bi false .add (.t 64) (.t 68)⟩,
    ⟨(some 5), 80, none, .mv (.t 69)⟩]) .skip))
  (.reg [⟨(some 70), 1120, none, .mv (.t 5)⟩,
    ⟨(some 71), 1136, none, .bi false .add (.t 70) (.c (.str [10]))⟩,
    ⟨(some 5), 80, none, .mv (.t 71)⟩]))))))))))
  (.reg [⟨(some 72), 1152, none, .bi false .add (.t 15) (.c (.int .i64 1))⟩,
    ⟨(some 15), 240, none, .mv (.t 72)⟩]))))
def c10 : C := (.seq (.reg [⟨(some 2), 32, none, .mv (.c (.str []))⟩,
    ⟨(some 3), 48, none, .mv (.c (.int .i64 0))⟩])
  (.seq (.seq (.reg [⟨(some 8), 128, none, .mv (.t 0)⟩,
    ⟨(some 9), 144, none, .call (.c (.fn (.func 30) [] [])) [(.t 8)]⟩,
    ⟨(some 4), 64, none, .mv (.t 9)⟩])
  (.seq (.reg [⟨(some 10), 160, none, .mv (.t 4)⟩,
    ⟨(some 11), 176, none, .bi false .neq (.t 10) (.c (.int .i64 0))⟩])
  (.cond (.t 11) (.seq (.reg [⟨(some 12), 192, none, .mv (.t 4)⟩,
    ⟨(some 2), 32, none, .mv (.c (.str []))⟩,
    ⟨(some 3), 48, none, .mv (.t 12)⟩])
  .ret) .skip)))
  (.seq (.reg [⟨(some 5), 80, none, .mv (.c (.str []))⟩])
  (.seq (.seq (.reg [⟨(some 13), 208, none, .mv (.t 0)⟩,
    ⟨(some 14), 224, none, .len (.t 13)⟩,
    ⟨(some 15), 240, none, .mv (.c (.int .i64 0))⟩])
  (.block 0 (.loop c10L1)))
  (.seq (.reg [⟨(some 73), 1168, none, .mv (.t 5)⟩,
    ⟨(some 2), 32, none, .mv (.t 73)⟩,
    ⟨(some 3), 48, none, .mv (.c (.int .i64 0))⟩])
  .ret)))))
theorem fits10 : fits Tryz.prog false Tryz.f10 1 74 [(2, none), (3, none)] = some c10.er := by kernel_rfl
theorem call10_bad (τ : Nat) (l : List Cd) (hb : limC l ≠ 0) : PureCall Tryz.prog 10 [.sl τ 7 l.length (fl eCd l)] [] ⟨.tup [.str [], .int .i64 (limC l)], [], []⟩ := by
  refine pure_call mix Tryz.func10 fits10 rfl ?_
  conv => whnf
  refine ⟨_, fun _ => call30 _ l, ?_⟩
  generalize limC l = e at hb ⊢
  conv => whnf
  refine ⟨?_, fun hc => ?_, fun hc => ?_⟩
  · exact g0
  · conv => whnf
    exact ret
  · exact absurd (by simpa using hc) hb
set_option maxRecDepth 100000 in
set_option maxHeartbeats 8000000 in
theorem call10 (τ : Nat) (l : List Cd) (hb : limC l = 0) : PureCall Tryz.prog 10 [.sl τ 7 l.length (fl eCd l)] [] ⟨.tup [.str (printC l), .int .i64 0], [], []⟩ := by
  obtain ⟨hl2, hV⟩ := limC_ok hb
  refine pure_call mix Tryz.func10 fits10 rfl ?_
  conv => whnf
  refine ⟨_, fun _ => call30 _ l, ?_⟩
  rw [hb]
  conv => whnf
  refine ⟨?_, fun hc => Bool.noConfusion (show false = true from hc), fun hc => ?_⟩
  · exact g0
  conv => whnf
  refine ⟨trivial, ?_⟩
  refine LSem.loop (n := 74) mix (α := Nat) (fun i => i ≤ l.length)
    (fun i => [(5, .str (printC (l.take i))), (13, .sl τ 7 l.length (fl eCd l)), (14, .int .i64 l.length), (15, .int .i64 i)])
    (fun i => []) (fun i => l.length - i) 0 ?_ ?_ ?_
  · exact Nat.zero_le _
  · refine ⟨rfl, rfl, ?_, ?_⟩ <;> exact ent
  · intro i hi
    have hj : ((i : Int)).toNat = i := by omega
    conv => whnf
    refine ⟨trivial, fun hc => ?_, fun hc => ?_⟩
    · replace hc := of_decide_eq_true hc
      have hlt : i < l.length := by
        have h : (i : Int) < l.length := hc
        omega
      have hpl := printC_len (l := l.take i) fun c hc => hV c (List.mem_of_mem_take hc)
      have hpl2 : (l.take i).length ≤ 200 := by rw [List.length_take]; omega
      have hpt := printC_take hlt
      have hone := hV _ (getD_mem hlt)
      have hpn := parts_len hone
      conv => whnf
      rw [hj]
      generalize l.getD i default = c at hpt hone hpn ⊢
      generalize printC (l.take i) = T at hpl hpt ⊢
      obtain ⟨o1, o2, o3⟩ := oneC_ok hone
      unfold badC at o3
      obtain ⟨p1, p2, p3, p4⟩ := hpn
      have hT : T.length ≤ 50000 := by omega
      have a1 := Lib.itoa_length_le c.r (by omega) (by omega)
      have a2 := Lib.itoa_length_le c.v (by omega) (by omega)
      have a3 := Lib.itoa_length_le c.f (by omega) (by omega)
      have a4 := Lib.itoa_length_le c.u (by omega) (by omega)
      have a5 := Lib.itoa_length_le c.a (by omega) (by omega)
      have a6 := Lib.itoa_length_le c.b (by omega) (by omega)
      have a7 := kindW_len c.k
      refine ⟨_, fun _ => call27 c.r (by omega) (by omega), ?_⟩
      conv => whnf
      refine ⟨_, fun _ => call14 c.k, ?_⟩
      conv => whnf
      refine ⟨_, fun _ => call27 c.v (by omega) (by omega), ?_⟩
      have q : T ++ ((((([114, 97, 110, 107, 32] ++ Lib.itoa c.r) ++ [32]) ++ kindW c.k) ++ [32]) ++ Lib.itoa c.v) = T ++ headT c := by
        congr 1
        simp [headT, putT, wRank]
      conv => whnf
      refine ⟨rfl, ?_⟩
      conv => whnf
      refine ⟨?_, ?_⟩
      · (try conv => whnf)
        simp only [List.length_append, List.length_cons, List.length_nil]
        exact g0
      refine LSem.meet (n := 74) mix (α := Unit) (fun _ => True)
        (fun _ => [(5, .str (T ++ headT c ++ daysT c)), (7, .pt 112 0 0), (13, .sl τ 7 l.length (fl eCd l)), (14, .int .i64 l.length), (15, .int .i64 i)])
        (fun _ => [(112, .box (eCd c))]) ?_ ?_
      · conv => whnf
        by_cases hd : c.f = 0 ∧ c.u = 364
        · have q2 : T ++ ((((([114, 97, 110, 107, 32] ++ Lib.itoa c.r) ++ [32]) ++ kindW c.k) ++ [32]) ++ Lib.itoa c.v) = T ++ headT c ++ daysT c := by unfold daysT; rw [if_pos hd, List.append_nil, q]
          refine ⟨trivial, fun hc => ?_, fun hc => ?_⟩
          · exact absurd hc (by rw [hd.1, hd.2]; decide)
          conv => whnf
          refine ⟨?_, (), trivial, rfl, rfl, ?_, ?_⟩
          · exact g0
          · exact ent
          · exact ent
        · have q2 : T ++ ((((([114, 97, 110, 107, 32] ++ Lib.itoa c.r) ++ [32]) ++ kindW c.k) ++ [32]) ++ Lib.itoa c.v) ++ ((([32, 100, 97, 121, 115, 32] ++ Lib.itoa c.f) ++ [32]) ++ Lib.itoa c.u) = T ++ headT c ++ daysT c := by
            unfold daysT; rw [if_neg hd, q]; simp [putT, wDays]
          refine ⟨trivial, fun hc => ?_, fun hc => ?_⟩
          · conv => whnf
            refine ⟨_, fun _ => call27 c.f (by omega) (by omega), ?_⟩
            conv => whnf
            refine ⟨_, fun _ => call27 c.u (by omega) (by omega), ?_⟩
            conv => whnf
            refine ⟨rfl, ?_⟩
            conv => whnf
            refine ⟨?_, (), trivial, rfl, rfl, ?_, ?_⟩
            · (try conv => whnf)
              simp only [List.length_append, List.length_cons, List.length_nil]
              exact g0
            · exact ent
            · exact ent
          · refine absurd hc fun hc => hd ?_
            replace hc : (!(c.f == 0 && (c.u == 364 && true))) = false := hc
            simpa using hc
      rintro ⟨⟩ -
      have hT3 : (T ++ headT c ++ daysT c).length ≤ 60100 := by rw [List.length_append, List.length_append]; omega
      conv => whnf
      refine ⟨trivial, ?_⟩
      refine LSem.meet (n := 74) mix (α := Unit) (fun _ => True)
        (fun _ => [(5, .str (T ++ headT c ++ daysT c ++ aboveT c)), (7, .pt 112 0 0), (13, .sl τ 7 l.length (fl eCd l)), (14, .int .i64 l.length), (15, .int .i64 i)])
        (fun _ => [(112, .box (eCd c))]) ?_ ?_
      · conv => whnf
        refine ⟨trivial, fun hc => ?_, fun hc => ?_⟩
        · simp only [bp] at hc
          have q3 : T ++ headT c ++ daysT c ++ ([32, 97, 98, 111, 118, 101, 32] ++ Lib.itoa c.a) = T ++ headT c ++ daysT c ++ aboveT c := by unfold aboveT; rw [if_neg hc]; simp [putT, wAbove]
          conv => whnf
          refine ⟨_, fun _ => call27 c.a (by omega) (by omega), ?_⟩
          conv => whnf
          refine ⟨?_, (), trivial, rfl, rfl, ?_, ?_⟩
          · (try conv => whnf)
            simp only [List.length_append, List.length_cons, List.length_nil] at hT3 ⊢
            exact g0
          · exact ent
          · exact ent
        · simp only [bp] at hc
          have q3 : T ++ headT c ++ daysT c = T ++ headT c ++ daysT c ++ aboveT c := by unfold aboveT; rw [if_pos hc, List.append_nil]
          conv => whnf
          refine ⟨?_, (), trivial, rfl, rfl, ?_, ?_⟩
          · exact g0
          · exact ent
          · exact ent
      rintro ⟨⟩ -
      have hT4 : (T ++ headT c ++ daysT c ++ aboveT c).length ≤ 60200 := by rw [List.length_append]; omega
      conv => whnf
      refine ⟨trivial, ?_⟩
      refine LSem.meet (n := 74) mix (α := Unit) (fun _ => True)
        (fun _ => [(5, .str (T ++ headT c ++ daysT c ++ aboveT c ++ belowT c)), (7, .pt 112 0 0), (13, .sl τ 7 l.length (fl eCd l)), (14, .int .i64 l.length), (15, .int .i64 i)])
        (fun _ => [(112, .box (eCd c))]) ?_ ?_
      · conv => whnf
        refine ⟨trivial, fun hc => ?_, fun hc => ?_⟩
        · simp only [bp] at hc
          have q3 : T ++ headT c ++ daysT c ++ aboveT c ++ ([32, 98, 101, 108, 111, 119, 32] ++ Lib.itoa c.b) = T ++ headT c ++ daysT c ++ aboveT c ++ belowT c := by unfold belowT; rw [if_neg hc]; simp [putT, wBelow]
          conv => whnf
          refine ⟨_, fun _ => call27 c.b (by omega) (by omega), ?_⟩
          conv => whnf
          refine ⟨?_, (), trivial, rfl, rfl, ?_, ?_⟩
          · (try conv => whnf)
            simp only [List.length_append, List.length_cons, List.length_nil] at hT4 ⊢
            exact g0
          · exact ent
          · exact ent
        · simp only [bp] at hc
          have q3 : T ++ headT c ++ daysT c ++ aboveT c = T ++ headT c ++ daysT c ++ aboveT c ++ belowT c := by unfold belowT; rw [if_pos hc, List.append_nil]
          conv => whnf
          refine ⟨?_, (), trivial, rfl, rfl, ?_, ?_⟩
          · exact g0
          · exact ent
          · exact ent
      rintro ⟨⟩ -
      have hT5 : (T ++ headT c ++ daysT c ++ aboveT c ++ belowT c).length ≤ 60300 := by rw [List.length_append]; omega
      have q : (T ++ headT c ++ daysT c ++ aboveT c ++ belowT c) ++ [10] = printC (l.take (i + 1)) := by rw [hpt]; simp [lineT]
      conv => whnf
      refine ⟨?_, i + 1, hlt, by omega, rfl, rfl, ?_, ?_⟩
      · exact g0
      · exact ent
      · exact ent
    · replace hc := of_decide_eq_false hc
      have hk : i = l.length := by
        have h : ¬ (i : Int) < l.length := hc
        omega
      subst hk
      rw [List.take_length]
      conv => whnf
      exact ret
end Pv
end Go.Proofs.YtknidebojogodaaGreatDoor
/- LAW 13, THE WALKS: equality of lists of conditions; the example. -/
set_option linter.unusedSimpArgs false
set_option linter.unusedVariables false
namespace Go.Proofs.YtknidebojogodaaGreatDoor
namespace Pv
def c20L1 : C := (.seq (.reg [⟨(some 14), 224, none, .bi false .lss (.t 13) (.t 12)⟩])
  (.seq (.cond (.t 14) .skip (.exit 0))
  (.seq (.block 1 (.seq (.reg [⟨(some 15), 240, none, .mv (.t 13)⟩,
    ⟨(some 5), 80, none, .mv (.t 15)⟩])
  (.seq (.drw [⟨(some 16), 256, none, .mv (.t 0)⟩,
    ⟨(some 17), 272, none, .mv (.t 5)⟩,
    ⟨(some 18), 288, none, .ia 7 (.t 16) (.t 17)⟩,
    ⟨(some 19), 304, none, .ld 7 true (.t 18)⟩,
    ⟨(some 20), 320, none, .mv (.t 1)⟩,
    ⟨(some 21), 336, none, .mv (.t 5)⟩,
    ⟨(some 22), 352, none, .ia 7 (.t 20) (.t 21)⟩,
    ⟨(some 23), 368, none, .ld 7 true (.t 22)⟩,
    ⟨(some 24), 384, none, .eqa true [0, 0, 0, 0, 0, 0, 0] (.t 19) (.t 23)⟩]
    [(0, 1, 16), (0, 4, 16), (0, 5, 16), (0, 6, 16), (0, 7, 16), (1, 4, 17), (1, 5, 17), (1, 6, 17), (1, 7, 17), (2, 4, 18), (2, 5, 18), (2, 6, 18), (2, 7, 18), (3, 4, 19), (3, 5, 19), (3, 6, 19), (3, 7, 19), (4, 5, 20)])
  (.cond (.t 24) (.seq (.reg [⟨(some 4), 64, none, .mv (.c (.bool false))⟩])
  .ret) .skip))))
  (.reg [⟨(some 25), 400, none, .bi false .add (.t 13) (.c (.int .i64 1))⟩,
    ⟨(some 13), 208, none, .mv (.t 25)⟩]))))
def c20 : C := (.seq (.reg [⟨(some 4), 64, none, .mv (.c (.bool false))⟩])
  (.seq (.seq (.reg [⟨(some 6), 96, none, .mv (.t 0)⟩,
    ⟨(some 7), 112, none, .len (.t 6)⟩,
    ⟨(some 8), 128, none, .mv (.t 1)⟩,
    ⟨(some 9), 144, none, .len (.t 8)⟩,
    ⟨(some 10), 160, none, .bi false .neq (.t 7) (.t 9)⟩])
  (.cond (.t 10) (.seq (.reg [⟨(some 4), 64, none, .mv (.c (.bool false))⟩])
  .ret) .skip))
  (.seq (.seq (.reg [⟨(some 11), 176, none, .mv (.t 0)⟩,
    ⟨(some 12), 192, none, .len (.t 11)⟩,
    ⟨(some 13), 208, none, .mv (.c (.int .i64 0))⟩])
  (.block 0 (.loop c20L1)))
  (.seq (.reg [⟨(some 4), 64, none, .mv (.c (.bool true))⟩])
  .ret))))
theorem fits20 : fits Tryz.prog false Tryz.f20 2 26 [(4, none)] = some c20.er := by kernel_rfl
def c6 : C := (.seq (.reg [⟨(some 0), 0, none, .mv (.c (.bool false))⟩])
  (.seq (.reg [⟨(some 5), 80, none, .call (.c (.fn (.func 18) [] [])) [(.c (.str [114, 97, 110, 107, 32, 51, 32, 108, 101, 97, 115, 116, 32, 49, 50, 48, 32, 97, 98, 111, 118, 101, 32, 53, 48, 48, 48, 32, 100, 97, 121, 115, 32, 54, 48, 32, 49, 53, 48]))]⟩,
    ⟨(some 4), 64, none, .mv (.t 5)⟩,
    ⟨(some 6), 96, none, .ex (.t 4) 0⟩,
    ⟨(some 7), 112, none, .ex (.t 4) 1⟩,
    ⟨(some 8), 128, none, .ex (.t 4) 2⟩,
    ⟨(some 1), 16, none, .mv (.t 6)⟩,
    ⟨(some 2), 32, none, .mv (.t 7)⟩,
    ⟨(some 3), 48, none, .mv (.t 8)⟩])
  (.seq (.reg [⟨(some 9), 144, none, .mv (.t 3)⟩,
    ⟨(some 10), 160, none, .bi false .eql (.t 9) (.c (.int .i64 0))⟩,
    ⟨(some 11), 176, none, .mv (.t 10)⟩,
    ⟨(some 12), 192, (some (11, true)), .mv (.t 2)⟩,
    ⟨(some 13), 208, (some (11, true)), .bi false .eql (.t 12) (.c (.int .i64 0))⟩,
    ⟨(some 14), 224, none, .pick (.t 11) (.t 13) (.c (.bool false))⟩,
    ⟨(some 15), 240, none, .mv (.t 14)⟩,
    ⟨(some 16), 256, (some (15, true)), .mv (.t 1)⟩,
    ⟨(some 17), 272, (some (15, true)), .len (.t 16)⟩,
    ⟨(some 18), 288, (some (15, true)), .bi false .eql (.t 17) (.c (.int .i64 1))⟩,
    ⟨(some 19), 304, none, .pick (.t 15) (.t 18) (.c (.bool false))⟩,
    ⟨(some 20), 320, none, .mv (.t 19)⟩,
    ⟨(some 21), 336, (some (20, true)), .mv (.t 1)⟩,
    ⟨(some 22), 352, (some (20, true)), .ia 7 (.t 21) (.c (.int .i64 0))⟩,
    ⟨(some 23), 368, (some (20, true)), .ld 7 true (.t 22)⟩,
    ⟨(some 24), 384, (some (20, true)), .bd [(.int .i64 0), (.int .i64 0)] [(0, 1, (.c (.int .i64 60))), (1, 1, (.c (.int .i64 150)))]⟩,
    ⟨(some 25), 400, (some (20, true)), .bd [(.int .i64 0), (.int .i64 0), (.int .i64 0), (.int .i64 0), (.int .i64 0), (.int .i64 0), (.int .i64 0)] [(0, 1, (.c (.int .i64 3))), (1, 1, (.c (.int .i64 1))), (2, 1, (.c (.int .i64 120))), (3, 2, (.t 24)), (5, 1, (.c (.int .i64 5000))), (6, 1, (.c (.int .i64 16777216)))]⟩,
    ⟨(some 26), 416, (some (20, true)), .eqa false [0, 0, 0, 0, 0, 0, 0] (.t 23) (.t 25)⟩,
    ⟨(some 27), 432, none, .pick (.t 20) (.t 26) (.c (.bool false))⟩,
    ⟨(some 28), 448, none, .mv (.t 27)⟩,
    ⟨(some 29), 464, (some (28, true)), .call (.c (.fn (.func 13) [] [])) [(.c (.int .i64 4))]⟩,
    ⟨(some 30), 480, (some (28, true)), .bi false .eql (.t 29) (.c (.str [100, 111, 119, 110]))⟩,
    ⟨(some 31), 496, none, .pick (.t 28) (.t 30) (.c (.bool false))⟩,
    ⟨(some 0), 0, none, .mv (.t 31)⟩])
  .ret)))
theorem fits6 : fits Tryz.prog false Tryz.f6 0 32 [(0, none)] = some c6.er := by kernel_rfl
theorem eq_cd (x y : Cd) : ((x.r == y.r) && ((x.k == y.k) && ((x.v == y.v) && ((x.f == y.f) && ((x.u == y.u) && ((x.a == y.a) && ((x.b == y.b) && true))))))) = decide (x = y) := by
  rw [Bool.eq_iff_iff]
  obtain ⟨a1, a2, a3, a4, a5, a6, a7⟩ := x
  obtain ⟨b1, b2, b3, b4, b5, b6, b7⟩ := y
  simp [and_assoc]
theorem list_ext_getD {α : Type} [Inhabited α] {a b : List α} (hl : a.length = b.length) (h : ∀ i, i < a.length → a.getD i default = b.getD i default) : a = b := by
  apply List.ext_getElem hl
  intro i h1 h2
  have := h i h1
  simpa [List.getD, h1, h2] using this
set_option maxRecDepth 100000 in
theorem call20 (τ τ' : Nat) (a b : List Cd) (ha : a.length ≤ 4611686018427387904) : PureCall Tryz.prog 20 [.sl τ 7 a.length (fl eCd a), .sl τ' 7 b.length (fl eCd b)] [] ⟨.bool (decide (a = b)), [], []⟩ := by
  refine pure_call mix Tryz.func20 fits20 rfl ?_
  conv => whnf
  refine ⟨trivial, fun hc => ?_, fun hc => ?_⟩
  · simp only [bp] at hc
    rw [decide_eq_false (p := a = b) (fun e => hc (by rw [e]))]
    conv => whnf
    exact ret
  simp only [bp] at hc
  have hl : a.length = b.length := by omega
  conv => whnf
  refine ⟨trivial, ?_⟩
  refine LSem.loop (n := 26) mix (α := Nat) (fun i => i ≤ a.length ∧ ∀ k, k < i → a.getD k default = b.getD k default)
    (fun i => [(0, .sl τ 7 a.length (fl eCd a)), (1, .sl τ' 7 b.length (fl eCd b)), (12, .int .i64 a.length), (13, .int .i64 i)])
    (fun i => []) (fun i => a.length - i) 0 ?_ ?_ ?_
  · exact ⟨Nat.zero_le _, fun k hk => absurd hk (Nat.not_lt_zero _)⟩
  · refine ⟨rfl, rfl, ?_, ?_⟩ <;> exact ent
  · rintro i ⟨hi, hall⟩
    have hj : ((i : Int)).toNat = i := by omega
    conv => whnf
    refine ⟨trivial, fun hc => ?_, fun hc => ?_⟩
    · replace hc := of_decide_eq_true hc
      have hlt : i < a.length := by
        have h : (i : Int) < a.length := hc
        omega
      conv => whnf
      rw [hj]
      refine ⟨rfl, ?_⟩
      conv => whnf
      have hE := eq_cd (a.getD i default) (b.getD i default)
      refine ⟨?_, fun h => ?_, fun h => ?_⟩
      · exact g0
      · replace h : (!((a.getD i default).r == (b.getD i default).r && ((a.getD i default).k == (b.getD i default).k && ((a.getD i default).v == (b.getD i default).v && ((a.getD i default).f == (b.getD i default).f && ((a.getD i default).u == (b.getD i default).u && ((a.getD i default).a == (b.getD i default).a && ((a.getD i default).b == (b.getD i default).b && true)))))))) = true := h
        rw [hE] at h
        rw [decide_eq_false (p := a = b) (fun e => by rw [e] at h; simp at h)]
        conv => whnf
        exact ret
      · replace h : (!((a.getD i default).r == (b.getD i default).r && ((a.getD i default).k == (b.getD i default).k && ((a.getD i default).v == (b.getD i default).v && ((a.getD i default).f == (b.getD i default).f && ((a.getD i default).u == (b.getD i default).u && ((a.getD i default).a == (b.getD i default).a && ((a.getD i default).b == (b.getD i default).b && true)))))))) = false := h
        rw [hE] at h
        have he : a.getD i default = b.getD i default := by
          generalize a.getD i default = x at h ⊢
          generalize b.getD i default = y at h ⊢
          simpa using h
        conv => whnf
        refine ⟨?_, i + 1, ⟨hlt, fun k hk => ?_⟩, by omega, rfl, rfl, ?_, ?_⟩
        · exact g0
        · by_cases e : k = i
          · rw [e]; exact he
          · exact hall k (by omega)
        · exact ent
        · exact ent
    · replace hc := of_decide_eq_false hc
      have hk : i = a.length := by
        have h : ¬ (i : Int) < a.length := hc
        omega
      subst hk
      rw [decide_eq_true (p := a = b) (list_ext_getD hl hall)]
      conv => whnf
      exact ret
theorem awake_text : parseG [114, 97, 110, 107, 32, 51, 32, 108, 101, 97, 115, 116, 32, 49, 50, 48, 32, 97, 98, 111, 118, 101, 32, 53, 48, 48, 48, 32, 100, 97, 121, 115, 32, 54, 48, 32, 49, 53, 48] = ([⟨3, 1, 120, 60, 150, 5000, 16777216⟩], 0, 0) := by decide +kernel
set_option maxRecDepth 100000 in
theorem call6 : PureCall Tryz.prog 6 [] [] ⟨.bool true, [], []⟩ := by
  refine pure_call mix Tryz.func6 fits6 rfl ?_
  have h := call18 [114, 97, 110, 107, 32, 51, 32, 108, 101, 97, 115, 116, 32, 49, 50, 48, 32, 97, 98, 111, 118, 101, 32, 53, 48, 48, 48, 32, 100, 97, 121, 115, 32, 54, 48, 32, 49, 53, 48] (by decide)
  rw [awake_text] at h
  conv => whnf
  refine ⟨_, fun _ => h, ?_⟩
  conv => whnf
  refine ⟨_, fun _ => call13 4, ?_⟩
  conv => whnf
  refine ⟨?_, [], ?_⟩
  · exact g0
  conv => whnf
  refine ⟨rfl, ?_, trivial, trivial⟩
  exact ent
end Pv
end Go.Proofs.YtknidebojogodaaGreatDoor
/- LAW 13: strings.Join as a pure call. -/
set_option linter.unusedSimpArgs false
set_option linter.unusedVariables false
namespace Go.Proofs.YtknidebojogodaaGreatDoor
namespace Pv
open Go.RowKit
theorem strs_vals {X : Cx} {γ : Gh} {w : World} {τ : Nat} {l : List (List UInt8)} {vs : List Value} (h5 : RowsRep X γ w τ 1 l.length (fl eStr l) vs) : vs = l.map strV := by
  refine List.ext_getElem? fun j => ?_
  have hlen : vs.length = l.length := by rw [h5.len, Nat.mul_one]
  by_cases hj : j < l.length
  · have hc : (fl eStr l j)[0]? = some (.str (l.getD j default)) := rfl
    have hu : vs[j]? = some (vs[j]'(by omega)) := List.getElem?_eq_getElem (by omega)
    have := h5.rep j 0 _ (vs[j]'(by omega)) hj hc (by rw [Nat.mul_one, Nat.add_zero]; exact hu)
    have hi : vs[j]'(by omega) = strV (l.getD j default) := by
      have h6 : Rep X γ w (.str (l.getD j default)) (vs[j]'(by omega)) := this
      exact h6.str_inv
    rw [hu, hi, List.getElem?_map, getD_some hj]; rfl
  · rw [List.getElem?_eq_none (by omega), List.getElem?_eq_none (by simp; omega)]
theorem map_data (l : List (List UInt8)) : (l.map fun s => (⟨s.toArray⟩ : ByteArray)).map (·.data.toList) = l := by
  rw [List.map_map]
  conv => rhs; rw [← List.map_id l]
  exact List.map_congr_left fun x _ => by simp
theorem call17 (τ : Nat) (l : List (List UInt8)) (sep : List UInt8) (hN : l.length ≤ 140737488355328) (hlen : (Lib.join l sep).length ≤ 140737488355328) :
    PureCall Tryz.prog 17 [.sl τ 1 l.length (fl eStr l), .str sep] [] ⟨.str (Lib.join l sep), [], []⟩ := by
  refine ⟨⟨_, Tryz.func17, rfl, rfl⟩, fun w γ as_ ls vals hst hX hargs => ?_⟩
  obtain ⟨v, us, rfl, hv, hus⟩ := hargs.cons_inv
  have hu := args_str sep _ _ _ _ hus
  subst hu
  obtain ⟨ad, cap, vs, rfl, hcap, hr, hor, hcell⟩ := sl_rows hv
  have hvs := strs_vals hr
  subst hvs
  have hnone : ∀ r, γ r = none := fun r => by
    have := hst.dom r
    simpa using this
  have hno : ∀ b, ¬ γ.own b := fun b ⟨r, ge, hr, _⟩ => by rw [hnone r] at hr; cases hr
  have key : Calls Tryz.prog 17 #[.slice ad l.length cap, strV sep] w fun ev w' => ev = .returned (.string ⟨(Lib.join l sep).toArray⟩) ∧ Keeps (fun _ => False) w w' := by
    by_cases h0 : l.length = 0
    · have : l = [] := List.eq_nil_of_length_eq_zero h0
      subst this
      refine (Sh.strings_Join_none ad cap ⟨sep.toArray⟩ w).mono ?_
      rintro ev w' ⟨rfl, rfl⟩
      exact ⟨rfl, Keeps.refl _ _⟩
    · rcases hor with h1 | ⟨a, rfl, hm, hlt⟩
      · exact absurd h1 h0
      · have hc := hcell a rfl
        obtain ⟨b, off, sp⟩ := a
        have h1 := hc 0 (strV (l.getD 0 default)) (by rw [List.getElem?_map, getD_some (by omega)]; rfl)
        have hsp : sp = none := by
          simp only [Addr.add, if_pos] at h1
          unfold World.cell? at h1
          simp only at h1
          split at h1
          · cases sp with
            | none => rfl
            | some _ => simp at h1
          · cases h1
        subst hsp
        have hml : (l.map fun s => (⟨s.toArray⟩ : ByteArray)).length = l.length := by simp
        have hJ := Sh.strings_Join b off cap (l.map fun s => (⟨s.toArray⟩ : ByteArray)) ⟨sep.toArray⟩ w (fun j x hx => by
          rw [List.getElem?_map] at hx
          obtain ⟨y, hy, rfl⟩ := Option.map_eq_some_iff.1 hx
          have hj := (List.getElem?_eq_some_iff.1 hy).1
          have h2 := hc j (strV y) (by rw [List.getElem?_map, hy]; rfl)
          by_cases hj0 : j = 0
          · subst hj0; simpa [Addr.add, strV] using h2
          · simpa [Addr.add, hj0, strV] using h2) hlt (by rw [hml]; exact hN) (by rw [hml]; exact hcap) (by rw [map_data]; exact hlen)
        rw [hml, map_data] at hJ
        exact hJ.mono fun ev w' ⟨he, hb⟩ => ⟨he, keeps_below hb⟩
  refine key.mono ?_
  rintro ev w' ⟨he, hk⟩
  have hkeep : Keeps γ.own w w' := hk.mono fun k _ h => h.elim
  refine ⟨_, γ, he, .str _, ?_, hkeep, fun r hr => by simp [nbx] at hr, fun r ge b hr hb => by rw [hnone r] at hr; cases hr⟩
  refine ⟨fun r => ?_, fun r ge se hr hs => (by rw [hnone r] at hr; cases hr), fun r r' ge ge' b hr => (by rw [hnone r] at hr; cases hr), fun b hb => absurd hb (hno b), fun b hb => absurd hb (hno b), ?_⟩
  · rw [hnone r]; unfold resSt
    split <;> rfl
  · exact glob_keep hst.glob (fun k hlt hn => hkeep.block k hlt hn) fun b hb => .inl hb
end Pv
end Go.Proofs.YtknidebojogodaaGreatDoor
/- LAW 13: RulesParse answers true. -/
set_option linter.unusedSimpArgs false
set_option linter.unusedVariables false
namespace Go.Proofs.YtknidebojogodaaGreatDoor
namespace Pv
def c4L1 : C := (.seq (.reg [⟨(some 89), 1424, none, .bi false .lss (.t 88) (.t 87)⟩])
  (.seq (.cond (.t 89) .skip (.exit 0))
  (.seq (.block 1 (.seq (.reg [⟨(some 90), 1440, none, .ia 1 (.t 86) (.t 88)⟩,
    ⟨(some 91), 1456, none, .ld 1 false (.t 90)⟩,
    ⟨(some 16), 256, none, .mv (.t 91)⟩])
  (.seq (.reg [⟨(some 93), 1488, none, .mv (.t 16)⟩,
    ⟨(some 94), 1504, none, .call (.c (.fn (.func 18) [] [])) [(.t 93)]⟩,
    ⟨(some 92), 1472, none, .mv (.t 94)⟩,
    ⟨(some 95), 1520, none, .ex (.t 92) 0⟩,
    ⟨(some 96), 1536, none, .ex (.t 92) 1⟩,
    ⟨(some 97), 1552, none, .ex (.t 92) 2⟩,
    ⟨(some 17), 272, none, .mv (.t 95)⟩,
    ⟨(some 18), 288, none, .mv (.t 96)⟩,
    ⟨(some 19), 304, none, .mv (.t 97)⟩])
  (.seq (.reg [⟨(some 99), 1584, none, .mv (.t 16)⟩,
    ⟨(some 100), 1600, none, .call (.c (.fn (.func 19) [] [])) [(.t 99)]⟩,
    ⟨(some 98), 1568, none, .mv (.t 100)⟩,
    ⟨(some 101), 1616, none, .ex (.t 98) 0⟩,
    ⟨(some 102), 1632, none, .ex (.t 98) 1⟩,
    ⟨(some 103), 1648, none, .ex (.t 98) 2⟩,
    ⟨(some 20), 320, none, .mv (.t 101)⟩,
    ⟨(some 21), 336, none, .mv (.t 102)⟩,
    ⟨(some 22), 352, none, .mv (.t 103)⟩])
  (.seq (.reg [⟨(some 104), 1664, none, .mv (.t 19)⟩,
    ⟨(some 105), 1680, none, .mv (.t 22)⟩,
    ⟨(some 106), 1696, none, .bi false .neq (.t 104) (.t 105)⟩,
    ⟨(some 107), 1712, none, .mv (.t 106)⟩,
    ⟨(some 108), 1728, (some (107, false)), .mv (.t 18)⟩,
    ⟨(some 109), 1744, (some (107, false)), .mv (.t 21)⟩,
    ⟨(some 110), 1760, (some (107, false)), .bi false .neq (.t 108) (.t 109)⟩,
    ⟨(some 111), 1776, none, .pick (.t 107) (.c (.bool true)) (.t 110)⟩,
    ⟨(some 112), 1792, none, .mv (.t 111)⟩,
    ⟨(some 113), 1808, (some (112, false)), .mv (.t 17)⟩,
    ⟨(some 114), 1824, (some (112, false)), .mv (.t 20)⟩,
    ⟨(some 115), 1840, (some (112, false)), .call (.c (.fn (.func 20) [] [])) [(.t 113), (.t 114)]⟩,
    ⟨(some 116), 1856, (some (112, false)), .un false .not (.t 115)⟩,
    ⟨(some 117), 1872, none, .pick (.t 112) (.c (.bool true)) (.t 116)⟩])
  (.cond (.t 117) (.seq (.reg [⟨(some 8), 128, none, .mv (.c (.bool false))⟩])
  .ret) .skip))))))
  (.reg [⟨(some 118), 1888, none, .bi false .add (.t 88) (.c (.int .i64 1))⟩,
    ⟨(some 88), 1408, none, .mv (.t 118)⟩]))))
def c4 : C := (.seq (.reg [⟨(some 8), 128, none, .mv (.c (.bool false))⟩])
  (.seq (.seq (.reg [⟨(some 23), 368, none, .mv (.t 0)⟩,
    ⟨(some 24), 384, none, .lens (.t 23)⟩,
    ⟨(some 25), 400, none, .bi false .gtr (.t 24) (.c (.int .i64 3000))⟩])
  (.cond (.t 25) (.seq (.reg [⟨(some 26), 416, none, .call (.c (.fn (.func 6) [] [])) []⟩,
    ⟨(some 8), 128, none, .mv (.t 26)⟩])
  .ret) .skip))
  (.seq (.reg [⟨(some 27), 432, none, .mv (.t 1)⟩,
    ⟨(some 28), 448, none, .call (.c (.fn (.func 8) [] [])) [(.t 27)]⟩,
    ⟨(some 9), 144, none, .mv (.t 28)⟩])
  (.seq (.reg [⟨(some 30), 480, none, .mv (.t 9)⟩,
    ⟨(some 31), 496, none, .call (.c (.fn (.func 7) [] [])) [(.t 30)]⟩,
    ⟨(some 32), 512, none, .call (.c (.fn (.func 10) [] [])) [(.t 31)]⟩,
    ⟨(some 29), 464, none, .mv (.t 32)⟩,
    ⟨(some 33), 528, none, .ex (.t 29) 0⟩,
    ⟨(some 34), 544, none, .ex (.t 29) 1⟩,
    ⟨(some 10), 160, none, .mv (.t 33)⟩,
    ⟨(some 11), 176, none, .mv (.t 34)⟩])
  (.seq (.reg [⟨(some 35), 560, none, .mv (.t 10)⟩,
    ⟨(some 36), 576, none, .cvb 5 (.t 35)⟩,
    ⟨(some 12), 192, none, .mv (.t 36)⟩])
  (.cut (.seq (.seq (.reg [⟨(some 37), 592, none, .mv (.t 12)⟩,
    ⟨(some 38), 608, none, .len (.t 37)⟩,
    ⟨(some 39), 624, none, .bi false .gtr (.t 38) (.c (.int .i64 0))⟩])
  (.cond (.t 39) (.reg [⟨(some 40), 640, none, .mv (.t 12)⟩,
    ⟨(some 41), 656, none, .mv (.t 2)⟩,
    ⟨(some 42), 672, none, .mv (.t 12)⟩,
    ⟨(some 43), 688, none, .len (.t 42)⟩,
    ⟨(some 44), 704, none, .call (.c (.fn (.func 15) [] [])) [(.t 41), (.t 43)]⟩,
    ⟨(some 45), 720, none, .mv (.t 3)⟩,
    ⟨(some 46), 736, none, .call (.c (.fn (.func 15) [] [])) [(.t 45), (.c (.int .i64 30))]⟩,
    ⟨(some 47), 752, none, .ixs (.c (.str [114, 97, 110, 107, 100, 121, 115, 108, 109, 116, 117, 112, 98, 111, 118, 101, 119, 32, 48, 49, 50, 51, 52, 53, 54, 55, 56, 57, 35, 10])) (.t 46)⟩,
    ⟨(some 48), 768, none, .ia 1 (.t 40) (.t 44)⟩,
    ⟨none, 0, none, .st 1 (.t 48) (.t 47)⟩]) .skip))
  (.seq (.reg [⟨(some 49), 784, none, .mv (.t 10)⟩,
    ⟨(some 50), 800, none, .call (.c (.fn (.func 16) [] [])) [(.t 49), (.c (.str [32]))]⟩,
    ⟨(some 13), 208, none, .mv (.t 50)⟩])
  (.cut (.seq (.seq (.reg [⟨(some 51), 816, none, .mv (.t 13)⟩,
    ⟨(some 52), 832, none, .len (.t 51)⟩,
    ⟨(some 53), 848, none, .bi false .gtr (.t 52) (.c (.int .i64 2))⟩])
  (.cond (.t 53) (.seq (.reg [⟨(some 54), 864, none, .mv (.t 2)⟩,
    ⟨(some 55), 880, none, .mv (.t 13)⟩,
    ⟨(some 56), 896, none, .len (.t 55)⟩,
    ⟨(some 57), 912, none, .bi false .sub (.t 56) (.c (.int .i64 1))⟩,
    ⟨(some 58), 928, none, .call (.c (.fn (.func 15) [] [])) [(.t 54), (.t 57)]⟩,
    ⟨(some 14), 224, none, .mv (.t 58)⟩])
  (.drw [⟨(some 59), 944, none, .mv (.t 13)⟩,
    ⟨(some 60), 960, none, .mv (.t 14)⟩,
    ⟨(some 61), 976, none, .mv (.t 13)⟩,
    ⟨(some 62), 992, none, .mv (.t 14)⟩,
    ⟨(some 63), 1008, none, .bi false .add (.t 62) (.c (.int .i64 1))⟩,
    ⟨(some 64), 1024, none, .mv (.t 13)⟩,
    ⟨(some 65), 1040, none, .mv (.t 14)⟩,
    ⟨(some 66), 1056, none, .bi false .add (.t 65) (.c (.int .i64 1))⟩,
    ⟨(some 67), 1072, none, .ia 1 (.t 64) (.t 66)⟩,
    ⟨(some 68), 1088, none, .ld 1 false (.t 67)⟩,
    ⟨(some 69), 1104, none, .mv (.t 13)⟩,
    ⟨(some 70), 1120, none, .mv (.t 14)⟩,
    ⟨(some 71), 1136, none, .ia 1 (.t 69) (.t 70)⟩,
    ⟨(some 72), 1152, none, .ld 1 false (.t 71)⟩,
    ⟨(some 73), 1168, none, .ia 1 (.t 59) (.t 60)⟩,
    ⟨none, 0, none, .st 1 (.t 73) (.t 68)⟩,
    ⟨(some 74), 1184, none, .ia 1 (.t 61) (.t 63)⟩,
    ⟨none, 0, none, .st 1 (.t 74) (.t 72)⟩]
    [(0, 1, 59), (0, 2, 59), (0, 3, 59), (0, 4, 59), (0, 5, 59), (0, 6, 59), (0, 7, 59), (0, 8, 59), (0, 9, 59), (0, 10, 59), (0, 11, 59), (0, 12, 59), (0, 13, 59), (1, 2, 60), (1, 3, 60), (1, 4, 60), (1, 5, 60), (1, 6, 60), (1, 7, 60), (1, 8, 60), (1, 9, 60), (1, 10, 60), (1, 11, 60), (1, 12, 60), (1, 13, 60), (2, 3, 61), (2, 4, 61), (2, 5, 61), (2, 6, 61), (2, 7, 61), (2, 8, 61), (2, 9, 61), (2, 10, 61), (2, 11, 61), (2, 12, 61), (2, 13, 61), (2, 14, 61), (2, 15, 61), (3, 5, 62), (3, 6, 62), (3, 7, 62), (3, 8, 62), (3, 9, 62), (3, 10, 62), (3, 11, 62), (3, 12, 62), (3, 13, 62), (3, 14, 62), (3, 15, 62), (4, 5, 63), (4, 6, 63), (4, 7, 63), (4, 8, 63), (4, 9, 63), (4, 10, 63), (4, 11, 63), (4, 12, 63), (4, 13, 63), (4, 14, 63), (4, 15, 63), (5, 6, 64), (5, 7, 64), (5, 10, 64), (5, 11, 64), (5, 12, 64), (5, 13, 64), (6, 10, 65), (6, 11, 65), (6, 12, 65), (6, 13, 65), (7, 10, 66), (7, 11, 66), (7, 12, 66), (7, 13, 66), (8, 10, 67), (8, 11, 67), (8, 12, 67), (8, 13, 67), (9, 10, 68), (9, 11, 68), (9, 12, 68), (9, 13, 68), (10, 11, 69)])) .skip))
  (.seq (.seq (.drw [⟨(some 75), 1200, none, .mv (.t 0)⟩,
    ⟨(some 76), 1216, none, .mv (.t 10)⟩,
    ⟨(some 77), 1232, none, .mv (.t 12)⟩,
    ⟨(some 78), 1248, none, .cvs (.t 77)⟩,
    ⟨(some 79), 1264, none, .mv (.t 13)⟩,
    ⟨(some 80), 1280, none, .call (.c (.fn (.func 17) [] [])) [(.t 79), (.c (.str [32]))]⟩,
    ⟨(some 81), 1296, none, .mv (.t 13)⟩,
    ⟨(some 82), 1312, none, .call (.c (.fn (.func 17) [] [])) [(.t 81), (.c (.str [32, 32]))]⟩,
    ⟨(some 83), 1328, none, .bi false .add (.t 82) (.c (.str [10, 32, 35, 32, 120, 10, 10]))⟩,
    ⟨(some 84), 1344, none, .mv (.t 10)⟩,
    ⟨(some 85), 1360, none, .bi false .add (.t 83) (.t 84)⟩,
    ⟨(some 86), 1376, none, .bs 9 1 [(.t 75), (.t 76), (.t 78), (.t 80), (.t 85)]⟩,
    ⟨(some 87), 1392, none, .len (.t 86)⟩,
    ⟨(some 88), 1408, none, .mv (.c (.int .i64 0))⟩]
    [(0, 1, 75), (0, 2, 75), (0, 3, 75), (0, 4, 75), (0, 5, 75), (0, 6, 75), (0, 7, 75), (0, 8, 75), (0, 9, 75), (0, 10, 75), (0, 13, 75), (1, 2, 76), (1, 3, 76), (1, 4, 76), (1, 5, 76), (1, 6, 76), (1, 7, 76), (1, 8, 76), (1, 9, 76), (1, 10, 76), (1, 13, 76), (2, 4, 77), (2, 5, 77), (2, 6, 77), (2, 7, 77), (2, 8, 77), (2, 9, 77), (2, 10, 77), (2, 13, 77), (3, 4, 78), (3, 5, 78), (3, 6, 78), (3, 7, 78), (3, 8, 78), (3, 9, 78), (3, 10, 78), (3, 13, 78), (4, 6, 79), (4, 9, 79), (4, 13, 79), (5, 6, 80), (5, 9, 80), (5, 13, 80), (6, 9, 81), (6, 13, 81), (7, 9, 82), (7, 13, 82), (8, 9, 83), (8, 13, 83), (9, 13, 84), (10, 13, 85), (11, 13, 86), (12, 13, 87)])
  (.block 0 (.loop c4L1)))
  (.seq (.reg [⟨(some 119), 1904, none, .call (.c (.fn (.func 6) [] [])) []⟩,
    ⟨(some 8), 128, none, .mv (.t 119)⟩])
  .ret))))))))))))
theorem fits4 : fits Tryz.prog false Tryz.f4 4 120 [(8, none)] = some c4.er := by kernel_rfl
def eB (x : UInt8) : List PV := [.int .u8 (x.toNat : Int)]
theorem strOf_len (n : Nat) (f : Nat → List PV) : (strOf n f).length = n := by simp [strOf]
theorem areBytes_B (Z : List UInt8) : areBytes Z.length (fl eB Z) := fun i _ => ⟨Z.getD i default, rfl⟩
theorem lens_bound {B : Nat} : ∀ {V : List (List UInt8)}, (∀ x ∈ V, x.length ≤ B) → lensL V ≤ B * V.length
  | [], _ => Nat.zero_le _
  | x :: V, h => by
    have ih := lens_bound (V := V) fun y hy => h y (List.mem_cons_of_mem _ hy)
    have hx := h x (List.mem_cons_self ..)
    simp only [lensL, List.map_cons, List.sum_cons, List.length_cons] at ih ⊢
    rw [Nat.mul_succ]; omega
theorem joinN_len (sep : List UInt8) : ∀ V : List (List UInt8), (Lib.join V sep).length ≤ lensL V + sep.length * V.length
  | [] => by simp [Lib.join, List.intercalate]
  | [x] => by simp [Lib.join, List.intercalate, lensL]
  | x :: y :: r => by
    have ih := joinN_len sep (y :: r)
    have e : Lib.join (x :: y :: r) sep = x ++ sep ++ Lib.join (y :: r) sep := by simp [Lib.join, List.intercalate, List.intersperse]
    rw [e]
    simp only [lensL, List.map_cons, List.sum_cons, List.length_append, List.length_cons] at ih ⊢
    have : sep.length * (r.length + 1 + 1) = sep.length * (r.length + 1) + sep.length := Nat.mul_succ ..
    omega
theorem all_same (e n : Int) : (bif bif (e != e) then true else (n != n) then true else !true) = false := by simp
theorem parG_len : ∀ (L : List (Int × List (List UInt8))) (out : List Cd), (parG L out).1.length ≤ out.length + L.length
  | [], out => Nat.le_refl _
  | x :: L, out => by
    have ih := parG_len L (out ++ [(condG x.2).1])
    unfold parG
    split
    · exact Nat.zero_le _
    · split
      · exact Nat.zero_le _
      · rw [List.length_append] at ih
        simp only [List.length_cons, List.length_nil] at ih ⊢
        omega
theorem parse_len (s : List UInt8) : (parseG s).1.length ≤ 4611686018427387904 := by
  unfold parseG
  split
  · exact Nat.zero_le _
  · split
    · exact Nat.zero_le _
    · have := parG_len (linL 0 (linesW s)) []
      simp only [List.length_nil] at this
      omega
set_option maxRecDepth 100000 in
set_option maxHeartbeats 16000000 in
theorem call4 (s : List UInt8) (l : List Int) (a b : Int) (ha : -9223372036854775808 ≤ a ∧ a ≤ 9223372036854775807) (hb : -9223372036854775808 ≤ b ∧ b ≤ 9223372036854775807) :
    PureCall Tryz.prog 4 [.str s, .sl 1 1 l.length (fl eInt l), .int .i64 a, .int .i64 b] [] ⟨.bool true, [], []⟩ := by
  refine pure_call mix Tryz.func4 fits4 rfl ?_
  conv => whnf
  refine ⟨trivial, fun hc => ?_, fun hc => ?_⟩
  · conv => whnf
    refine ⟨_, fun _ => call6, ?_⟩
    conv => whnf
    exact ret
  simp only [bp] at hc
  have hs : s.length ≤ 3000 := by omega
  clear hc
  conv => whnf
  refine ⟨_, fun _ => call_new 1 l, ?_⟩
  conv => whnf
  refine ⟨_, fun _ => call7 ⟨l, 0⟩ (by dsimp only; omega), ?_⟩
  obtain ⟨hA1, hA2, hA3⟩ := made_ok ⟨l, 0⟩
  generalize (condsF ⟨l, 0⟩).1 = A at hA1 hA2 hA3 ⊢
  generalize (condsF ⟨l, 0⟩).2 = dk
  have hAl := printC_len hA2
  conv => whnf
  refine ⟨_, fun _ => call10 _ A hA1, ?_⟩
  have hT : (printC A).length ≤ 1500 := by omega
  generalize printC A = T at hT ⊢
  conv => whnf
  refine ⟨?_, ?_⟩
  · exact g0
  refine LSem.meet (n := 120) mix (α := List UInt8) (fun Z => Z.length = T.length)
    (fun Z => [(0, .str s), (2, .int .i64 a), (10, .str T), (12, .os 576)])
    (fun Z => [(576, .row 0 5 1 Z.length (fl eB Z))]) ?_ ?_
  · conv => whnf
    refine ⟨trivial, fun hc => ?_, fun hc => ?_⟩
    · simp only [bp] at hc
      have hk0 := Int.emod_nonneg a (show (T.length : Int) ≠ 0 by omega)
      have hk1 := Int.emod_lt_of_pos a (show (0 : Int) < T.length by omega)
      obtain ⟨i, hi⟩ : ∃ i : Nat, (i : Int) = a % T.length := ⟨(a % T.length).toNat, by omega⟩
      have hj0 := Int.emod_nonneg b (show (30 : Int) ≠ 0 by decide)
      have hj1 := Int.emod_lt_of_pos b (show (0 : Int) < 30 by decide)
      obtain ⟨j, hj⟩ : ∃ j : Nat, (j : Int) = b % 30 := ⟨(b % 30).toNat, by omega⟩
      conv => whnf
      refine ⟨_, fun _ => call_mod a T.length (by omega) (by omega), ?_⟩
      rw [← hi] at hk0 hk1 ⊢
      conv => whnf
      refine ⟨_, fun _ => call_mod b 30 (by decide) (by decide), ?_⟩
      rw [← hj] at hj0 hj1 ⊢
      have hii : ((i : Int)).toNat = i := by omega
      have hjj : ((j : Int)).toNat = j := by omega
      have q : RowEq T.length (fun k => if k = ((i : Int)).toNat then setAt [PV.int .u8 ((T.getD ((i : Int)).toNat 0).toNat : Int)] 0 [PV.int .u8 (([114, 97, 110, 107, 100, 121, 115, 108, 109, 116, 117, 112, 98, 111, 118, 101, 119, 32, 48, 49, 50, 51, 52, 53, 54, 55, 56, 57, 35, 10] : List UInt8).getD ((j : Int)).toNat 0).toNat] else [PV.int .u8 ((T.getD k 0).toNat : Int)])
          (fl eB (T.set i (([114, 97, 110, 107, 100, 121, 115, 108, 109, 116, 117, 112, 98, 111, 118, 101, 119, 32, 48, 49, 50, 51, 52, 53, 54, 55, 56, 57, 35, 10] : List UInt8).getD j 0))) := fun k hk => by
        dsimp only
        rw [hii, hjj]
        by_cases e : k = i
        · subst e
          rw [if_pos rfl]
          simp only [fl, List.getD, List.getElem?_set_self hk, Option.getD_some]; rfl
        · rw [if_neg e]
          simp only [fl, List.getD, List.getElem?_set_ne (Ne.symm e)]
          rfl
      have hsl : (T.set i (([114, 97, 110, 107, 100, 121, 115, 108, 109, 116, 117, 112, 98, 111, 118, 101, 119, 32, 48, 49, 50, 51, 52, 53, 54, 55, 56, 57, 35, 10] : List UInt8).getD j 0)).length = T.length := List.length_set ..
      have hsl' := hsl.symm
      conv => whnf
      refine ⟨?_, _, hsl, rfl, rfl, ?_, ?_⟩
      · exact g1
      · exact ent
      · exact ent
    · conv => whnf
      refine ⟨?_, T, rfl, rfl, rfl, ?_, ?_⟩
      · exact g0
      · exact ent
      · exact ent
  intro Z hZ
  have hspl := splitC_len 32 T
  conv => whnf
  refine ⟨_, fun _ => call16 T 32 (by omega), ?_⟩
  obtain ⟨hWl, hWm⟩ := hspl
  generalize splitC 32 T = W at hWl hWm ⊢
  conv => whnf
  refine ⟨?_, ?_⟩
  · exact g0
  refine LSem.meet (n := 120) mix (α := List (List UInt8)) (fun V => V.length = W.length ∧ ∀ x ∈ V, x.length ≤ 1500)
    (fun V => [(0, .str s), (10, .str T), (12, .os 576), (13, .os 800)])
    (fun V => [(576, .row 0 5 1 Z.length (fl eB Z)), (800, .row 0 9 1 V.length (fl eStr V))]) ?_ ?_
  · conv => whnf
    refine ⟨trivial, fun hc => ?_, fun hc => ?_⟩
    · simp only [bp] at hc
      have hk0 := Int.emod_nonneg a (show (W.length : Int) - 1 ≠ 0 by omega)
      have hk1 := Int.emod_lt_of_pos a (show (0 : Int) < (W.length : Int) - 1 by omega)
      obtain ⟨i, hi⟩ : ∃ i : Nat, (i : Int) = a % ((W.length : Int) - 1) := ⟨(a % ((W.length : Int) - 1)).toNat, by omega⟩
      conv => whnf
      refine ⟨_, fun _ => call_mod a ((W.length : Int) - 1) (by omega) (by omega), ?_⟩
      rw [← hi] at hk0 hk1 ⊢
      have hii : ((i : Int)).toNat = i := by omega
      have hi1 : ((i : Int) + 1).toNat = i + 1 := by omega
      conv => whnf
      refine ⟨rfl, ?_⟩
      have hsl : ((W.set i (W.getD (i + 1) default)).set (i + 1) (W.getD i default)).length = W.length := by rw [List.length_set, List.length_set]
      have hsl' := hsl.symm
      have hmem : ∀ x ∈ (W.set i (W.getD (i + 1) default)).set (i + 1) (W.getD i default), x.length ≤ 1500 := fun x hx => by
        rcases List.mem_or_eq_of_mem_set hx with hx | rfl
        · rcases List.mem_or_eq_of_mem_set hx with hx | rfl
          · have := hWm x hx; omega
          · have := hWm _ (getD_mem (l := W) (i := i + 1) (by omega)); omega
        · have := hWm _ (getD_mem (l := W) (i := i) (by omega)); omega
      conv => whnf
      refine ⟨?_, _, ⟨hsl, hmem⟩, rfl, rfl, ?_, ?_⟩
      · exact g1
      · exact ent
      · refine leS_cons rfl ?_ ?_
        · exact ent
        · refine leS_cons rfl ?_ ?_
          · show SLe _ _ _ _
            conv => whnf
            refine ⟨Nat.le_refl _, rfl, rfl, hsl', fun k hk => ?_⟩
            dsimp only
            rw [hii, hi1]
            by_cases e1 : k = i + 1
            · subst e1
              rw [if_pos rfl, if_neg (by omega)]
              simp only [fl, List.getD, List.getElem?_set_self (by rw [List.length_set]; omega : i + 1 < (W.set i (W[i + 1]?.getD default)).length), Option.getD_some]; rfl
            · rw [if_neg e1]
              by_cases e2 : k = i
              · subst e2
                rw [if_pos rfl]
                simp only [fl, List.getD, List.getElem?_set_ne (Ne.symm e1), List.getElem?_set_self (by omega : k < W.length), Option.getD_some]; rfl
              · rw [if_neg e2]
                simp only [fl, List.getD, List.getElem?_set_ne (Ne.symm e1), List.getElem?_set_ne (Ne.symm e2)]
          · exact ent
    · have hmem : ∀ x ∈ W, x.length ≤ 1500 := fun x hx => by have := hWm x hx; omega
      conv => whnf
      refine ⟨?_, W, ⟨rfl, hmem⟩, rfl, rfl, ?_, ?_⟩
      · exact g0
      · exact ent
      · exact ent
  rintro V ⟨hVl, hVm⟩
  have hlb := lens_bound hVm
  have hj1 := joinN_len [32] V
  have hj2 := joinN_len [32, 32] V
  have l1 : ([32] : List UInt8).length = 1 := rfl
  have l2 : ([32, 32] : List UInt8).length = 2 := rfl
  rw [l1] at hj1
  rw [l2] at hj2
  have hVb : 1500 * V.length ≤ 1500 * 1501 := Nat.mul_le_mul_left _ (by omega)
  have hab := areBytes_B Z
  have hsl := strOf_len Z.length (fl eB Z)
  conv => whnf
  refine ⟨_, fun _ => call17 2 V [32] (by omega) (by omega), ?_⟩
  generalize Lib.join V [32] = J1 at hj1 ⊢
  conv => whnf
  refine ⟨_, fun _ => call17 2 V [32, 32] (by omega) (by omega), ?_⟩
  generalize Lib.join V [32, 32] = J2 at hj2 ⊢
  conv => whnf
  refine ⟨rfl, ?_⟩
  obtain ⟨X, hX⟩ : ∃ X, X = [s, T, strOf Z.length (fl eB Z), J1, (J2 ++ [10, 32, 35, 32, 120, 10, 10]) ++ T] := ⟨_, rfl⟩
  have hXl : X.length = 5 := by rw [hX]; rfl
  have hXm : ∀ x ∈ X, x.length ≤ 1000000000 := by
    rw [hX]
    simp only [List.mem_cons, List.not_mem_nil, or_false]
    rintro x (rfl | rfl | rfl | rfl | rfl)
    · omega
    · omega
    · rw [hsl]; omega
    · omega
    · simp only [List.length_append, List.length_cons, List.length_nil]; omega
  have hq : RowEq 5 (fun i => [[PV.str s], [PV.str T], [PV.str (strOf Z.length (fl eB Z))], [PV.str J1], [PV.str ((J2 ++ [10, 32, 35, 32, 120, 10, 10]) ++ T)]].getD i []) (fl eStr X) := fun i hi => by
    rw [hX]
    match i, hi with
    | 0, _ => rfl
    | 1, _ => rfl
    | 2, _ => rfl
    | 3, _ => rfl
    | 4, _ => rfl
  conv => whnf
  refine ⟨?_, ?_⟩
  · (try conv => whnf)
    simp only [List.length_append, List.length_cons, List.length_nil]
    (repeat' (first | exact True.intro | exact hab | apply And.intro | refine maxLen_ge ?_)) <;> first | omega | exact hab | exact g1
  refine LSem.loop (n := 120) mix (α := Nat) (fun i => i ≤ 5)
    (fun i => [(86, .os 1376), (87, .int .i64 5), (88, .int .i64 i)])
    (fun i => [(1376, .row 0 9 1 5 (fl eStr X))]) (fun i => 5 - i) 0 ?_ ?_ ?_
  · exact Nat.zero_le _
  · refine ⟨rfl, rfl, ?_, ?_⟩ <;> exact ent
  · intro i hi
    have hj : ((i : Int)).toNat = i := by omega
    conv => whnf
    refine ⟨trivial, fun hc => ?_, fun hc => ?_⟩
    · replace hc := of_decide_eq_true hc
      have hlt : i < 5 := by
        have h : (i : Int) < 5 := hc
        omega
      have hx := hXm _ (getD_mem (l := X) (i := i) (by omega))
      conv => whnf
      rw [hj]
      generalize X.getD i default = x at hx ⊢
      refine ⟨_, fun _ => call18 x (by omega), ?_⟩
      have h2 := call19 x (by omega)
      rw [← parse_same] at h2
      conv => whnf
      refine ⟨_, fun _ => h2, ?_⟩
      have hle := parse_len x
      generalize parseG x = R at hle ⊢
      have h3 := call20 1 1 R.1 R.1 hle
      rw [decide_eq_true (p := R.1 = R.1) rfl] at h3
      conv => whnf
      refine ⟨_, fun _ => h3, ?_⟩
      conv => whnf
      refine ⟨?_, fun h => absurd (h.symm.trans (all_same R.2.2 R.2.1)) (by decide), fun h => ?_⟩
      · exact g0
      conv => whnf
      refine ⟨?_, i + 1, hlt, by omega, rfl, rfl, ?_, ?_⟩
      · exact g0
      · exact ent
      · exact ent
    · conv => whnf
      refine ⟨_, fun _ => call6, ?_⟩
      conv => whnf
      exact ret
end Pv
end Go.Proofs.YtknidebojogodaaGreatDoor
/- ARGUMENTS AS THEY COME IN: what a readable argument stands for. -/
set_option linter.unusedSimpArgs false
set_option linter.unusedVariables false
namespace Go.Proofs.YtknidebojogodaaGreatDoor
namespace Pv
open Go.RowKit Go.ChangeShapes
inductive Sh where
  | int (k : IntKind)
  | bool
  | str
  | sl (shs : List Sh)
  deriving Inhabited
inductive ShR : Sh → PV → Prop where
  | int (k : IntKind) (n : Int) (h : inR k n) : ShR (.int k) (.int k n)
  | bool (b : Bool) : ShR .bool (.bool b)
  | str (s : List UInt8) (h : s.length ≤ maxLen) : ShR .str (.str s)
  | sl (shs : List Sh) (n : Nat) (f : Nat → List PV) (hn : n ≤ maxLen) (h1 : ∀ i, i < n → (f i).length = shs.length)
      (h2 : ∀ (i j : Nat) (s : Sh) (p : PV), i < n → shs[j]? = some s → (f i)[j]? = some p → ShR s p) : ShR (.sl shs) (.sl 1 shs.length n f)
def ShL (shs : List Sh) (ps : List PV) : Prop := ps.length = shs.length ∧ ∀ (j : Nat) (s : Sh) (p : PV), shs[j]? = some s → ps[j]? = some p → ShR s p
def fieldSh (sh : TypeId → Option (List Sh)) (P : Program) : Nat → List Field → Option (List Sh)
  | _, [] => some []
  | off, f :: fs => if f.offset = off then match sh f.type with
      | some s => if s.length = P.cellsOf f.type then match fieldSh sh P (off + s.length) fs with
          | some r => some (s ++ r)
          | none => none
        else none
      | none => none
    else none
def shp (P : Program) : Nat → TypeId → Option (List Sh)
  | 0, _ => none
  | m + 1, t => match P.underlying t with
    | some .bool => some [.bool]
    | some (.int k) => some [.int k]
    | some .string => some [.str]
    | some (.slice e) => match shp P m e with
      | some s => if s.length = P.cellsOf e ∧ 0 < s.length then some [.sl s] else none
      | none => none
    | some (.struct fs) => match fieldSh (shp P m) P 0 fs.toList with
      | some s => if s.length = P.cellsOf t then some s else none
      | none => none
    | _ => none
theorem ShR.flat {s : Sh} {p : PV} (h : ShR s p) : p.flat = true := by cases h <;> rfl
theorem ShR.mark1 {s : Sh} {p : PV} (h : ShR s p) : p.mark 1 = p := by cases h <;> rfl
theorem ShL.append {a b : List Sh} {x y : List PV} (h : ShL a x) (h' : ShL b y) : ShL (a ++ b) (x ++ y) := by
  refine ⟨by simp [h.1, h'.1], fun j s p hs hp => ?_⟩
  rw [List.getElem?_append] at hs hp
  rw [h.1] at hp
  split at hs
  · rename_i hj; rw [if_pos hj] at hp; exact h.2 j s p hs hp
  · rename_i hj; rw [if_neg hj] at hp; exact h'.2 _ s p hs hp
section
variable {H : Type} {enc : TypeId × Value → H} {P : Program} {w : World} {sp : Nat → Bool} {held : Bool} {X : Cx} {γ : Gh}
theorem trod_fields {m n : Nat} {cs : List Value} {xs : List (DataW H × List MemPlace)}
    (ih : ∀ (t : TypeId) (cs : List Value) (x : DataW H × List MemPlace) (shs : List Sh), shp P m t = some shs → DataW.trod enc P w 0 sp held n t cs = some x → ∃ ps, ShL shs ps ∧ RepL X γ w ps cs ∧ ∀ u ∈ cs, u.oneCell' = true) :
    ∀ (fs : List Field) (off k : Nat) (shs : List Sh), fieldSh (shp P m) P off fs = some shs → off + shs.length = cs.length → (∀ i f, fs[i]? = some f → DataW.trod enc P w 0 sp held n f.type ((cs.drop f.offset).take (P.cellsOf f.type)) = xs[k + i]?) → k + fs.length = xs.length →
      ∃ ps, ShL shs ps ∧ RepL X γ w ps (cs.drop off) ∧ ∀ u ∈ cs.drop off, u.oneCell' = true
  | [], off, k, shs, h, hl, hx, hk => by
    simp only [fieldSh, Option.some.injEq] at h; subst h
    have e : cs.drop off = [] := List.drop_eq_nil_of_le (by simpa using hl.symm ▸ Nat.le_refl _)
    rw [e]
    exact ⟨[], ⟨rfl, fun j s p hs => by simp at hs⟩, RepL.nil_, by simp⟩
  | f :: fs, off, k, shs, h, hl, hx, hk => by
    simp only [fieldSh] at h
    split at h
    · rename_i hoff
      split at h
      · rename_i s hs
        split at h
        · rename_i hsl
          split at h
          · rename_i r hr
            injection h with h; subst h
            simp only [List.length_append] at hl
            obtain ⟨ps', h1, h2, h3⟩ := trod_fields (cs := cs) ih fs (off + s.length) (k + 1) r hr (by omega) (fun i f' hf => by
              have := hx (i + 1) f' (by simpa using hf)
              rw [show k + (i + 1) = k + 1 + i from by omega] at this; exact this) (by simp only [List.length_cons] at hk; omega)
            have h0 := hx 0 f rfl
            have hk0 : k + 0 < xs.length := by simp only [List.length_cons] at hk; omega
            rw [List.getElem?_eq_getElem hk0] at h0
            obtain ⟨ps, g1, g2, g3⟩ := ih _ _ _ _ hs h0
            rw [hoff, ← hsl] at g2 g3
            have e : cs.drop off = (cs.drop off).take s.length ++ cs.drop (off + s.length) := by
              rw [← List.drop_drop, List.take_append_drop]
            refine ⟨ps ++ ps', g1.append h1, ?_, ?_⟩
            · rw [e]; exact g2.append h2
            · rw [e]
              intro u hu
              rcases List.mem_append.1 hu with hu | hu
              · exact g3 u hu
              · exact h3 u hu
          · cases h
        · cases h
      · cases h
    · cases h
theorem trod_rep (hX : ∀ b, b < w.heap.size → mayLie X γ 1 b) : ∀ (m fuel : Nat) (t : TypeId) (cs : List Value) (x : DataW H × List MemPlace) (shs : List Sh), shp P m t = some shs → DataW.trod enc P w 0 sp held fuel t cs = some x →
    ∃ ps, ShL shs ps ∧ RepL X γ w ps cs ∧ ∀ u ∈ cs, u.oneCell' = true := by
  have one : ∀ (s : Sh) (p : PV) (v : Value), ShR s p → Rep X γ w p v → v.oneCell' = true → ∃ ps, ShL [s] ps ∧ RepL X γ w ps [v] ∧ ∀ u ∈ [v], u.oneCell' = true := fun s p v h1 h2 h3 =>
    ⟨[p], ⟨rfl, fun j s' p' hs hp => by
      cases j with
      | zero => simp only [List.getElem?_cons_zero, Option.some.injEq] at hs hp; subst hs; subst hp; exact h1
      | succ j => simp at hs⟩, RepL.cons_ h2 RepL.nil_, by simpa using h3⟩
  intro m
  induction m with
  | zero => intro fuel t cs x shs h; simp [shp] at h
  | succ m ih =>
    intro fuel t cs x shs h hd
    simp only [shp] at h
    split at h
    · rename_i ht
      injection h with h; subst h
      obtain ⟨b, rfl, _⟩ := DataW.trod_bool ht hd
      exact one _ _ _ (.bool b) (.bool b) rfl
    · rename_i k ht
      injection h with h; subst h
      obtain ⟨n, rfl, _, hw⟩ := DataW.trod_int ht hd
      simp only [Lit.wf, Bool.and_eq_true, decide_eq_true_eq] at hw
      exact one _ _ _ (.int k n hw) (.int k n) rfl
    · rename_i ht
      injection h with h; subst h
      obtain ⟨s, rfl, _, hw⟩ := DataW.trod_string ht hd
      have e : s = ⟨s.data.toList.toArray⟩ := by cases s; simp
      refine one _ (.str s.data.toList) _ (.str _ (by rw [Array.length_toList]; exact hw)) ?_ rfl
      have := Rep.str (X := X) (γ := γ) (w := w) s.data.toList
      rwa [← e] at this
    · rename_i e ht
      split at h
      · rename_i s hs
        split at h
        · rename_i hc
          obtain ⟨hsl, hpos⟩ := hc
          injection h with h; subst h
          rcases DataW.trod_slice ht hd with ⟨rfl, _⟩ | ⟨a, len, cap, elems, rest, n, hf, rfl, _, hb, hlc, hcm, hel, helem, _, _⟩
          · refine one _ (.sl 1 s.length 0 (fun _ => [])) _ (.sl s 0 _ (Nat.zero_le _) (fun i hi => by omega) (fun i j s p hi => by omega)) ?_ rfl
            exact .sl 1 _ 0 _ none 0 (fun _ => undef) (Nat.le_refl _) (fun i hi => by omega) (fun i hi => by omega) (fun hi => by omega) (fun i j c hi => by omega)
          · have hex : ∀ i, ∃ ps, i < len → ShL s ps ∧ ∃ cs', w.cells? 0 (a.add (i * P.cellsOf e)) (P.cellsOf e) = some cs' ∧ RepL X γ w ps cs' := fun i => by
              by_cases hi : i < len
              · have h1 := helem i hi
                rw [List.getElem?_eq_getElem (by omega)] at h1
                obtain ⟨cs', h2, h3⟩ := Option.bind_eq_some_iff.1 h1
                obtain ⟨ps, g1, g2, _⟩ := ih _ _ _ _ _ hs h3
                exact ⟨ps, fun _ => ⟨g1, cs', h2, g2⟩⟩
              · exact ⟨[], fun h => absurd h hi⟩
            let f : Nat → List PV := fun i => Classical.choose (hex i)
            have hf' : ∀ i, i < len → ShL s (f i) ∧ ∃ cs', w.cells? 0 (a.add (i * P.cellsOf e)) (P.cellsOf e) = some cs' ∧ RepL X γ w (f i) cs' := fun i => Classical.choose_spec (hex i)
            have hcell : ∀ i j, i < len → j < s.length → ∃ u p, w.cell? (a.add (i * s.length + j)) = some u ∧ (f i)[j]? = some p ∧ Rep X γ w p u := fun i j hi hj => by
              obtain ⟨g1, cs', g2, g3⟩ := hf' i hi
              obtain ⟨_, k2, k3⟩ := World.cells?_some g2
              have hj' : j < cs'.length := by rw [k2, ← hsl]; exact hj
              have hk := k3 j (by rw [← hsl]; exact hj)
              rw [List.getElem?_eq_getElem hj', add_add_, ← hsl] at hk
              have hpj : j < (f i).length := by rw [g1.1]; exact hj
              exact ⟨_, _, hk, List.getElem?_eq_getElem hpj, g3.2 j _ _ (List.getElem?_eq_getElem hpj) (List.getElem?_eq_getElem hj')⟩
            refine one _ (.sl 1 s.length len f) _ (.sl s len f (Nat.le_trans hlc hcm) (fun i hi => (hf' i hi).1.1) (fun i j s' p hi hs' hp => (hf' i hi).1.2 j s' p hs' hp)) ?_ rfl
            have hsh : ∀ i, i < len → ∀ c ∈ f i, ∃ s', ShR s' c := fun i hi c hc => by
              obtain ⟨j, hj⟩ := List.getElem?_of_mem hc
              have hlt := (List.getElem?_eq_some_iff.1 hj).1
              have hlt2 : j < s.length := by rw [← (hf' i hi).1.1]; exact hlt
              exact ⟨_, (hf' i hi).1.2 j _ _ (List.getElem?_eq_getElem hlt2) hj⟩
            refine .sl 1 s.length len f (some a) cap (fun k => (w.cell? (a.add k)).getD undef) hlc (fun i hi => (hf' i hi).1.1) (fun i hi c hc => by obtain ⟨s', h⟩ := hsh i hi c hc; exact h.flat) (fun hn => ?_) (fun i j c hi hc => ?_)
            · obtain ⟨u, p, h1, _, _⟩ := hcell 0 0 hn hpos
              have hblk : a.block < w.heap.size := by
                obtain ⟨_, cs', g2, _⟩ := hf' 0 hn
                have := World.cells?_block g2 (by omega)
                have e : (a.add (0 * P.cellsOf e)).block = a.block := by unfold Addr.add; split <;> rfl
                rwa [e] at this
              refine ⟨a, rfl, hX _ hblk, hblk, fun k hk => ?_⟩
              have hk1 : k / s.length < len := by rw [Nat.div_lt_iff_lt_mul hpos]; exact hk
              obtain ⟨u, p, h1, _, _⟩ := hcell (k / s.length) (k % s.length) hk1 (Nat.mod_lt _ hpos)
              rw [Nat.mul_comm, Nat.div_add_mod] at h1
              rw [h1]; rfl
            · have hj : j < s.length := by rw [← (hf' i hi).1.1]; exact (List.getElem?_eq_some_iff.1 hc).1
              obtain ⟨u, p, h1, h2, h3⟩ := hcell i j hi hj
              rw [h2] at hc; injection hc with hc; subst hc
              obtain ⟨s', h⟩ := hsh i hi p (List.mem_of_getElem? h2)
              rw [h.mark1, h1]; exact h3
        · cases h
      · cases h
    · rename_i fs ht
      split at h
      · rename_i s hs
        split at h
        · rename_i hsl
          injection h with h; subst h
          obtain ⟨xs, n, rfl, _, hcl, hxl, hx⟩ := DataW.trod_struct ht hd
          obtain ⟨ps, h1, h2, h3⟩ := trod_fields (cs := cs) (xs := xs) (ih n) fs.toList 0 0 s hs (by omega) (fun i f hf => by rw [Nat.zero_add]; exact hx i f (by simpa using hf)) (by simpa using hxl.symm)
          exact ⟨ps, h1, by simpa using h2, by simpa using h3⟩
        · cases h
      · cases h
    · cases h
end
end Pv
end Go.Proofs.YtknidebojogodaaGreatDoor
/- A LAW's ROW, FROM ITS FUNCTION's CONTRACT. -/
set_option linter.unusedSimpArgs false
set_option linter.unusedVariables false
namespace Go.Proofs.YtknidebojogodaaGreatDoor
namespace Pv
open Go.RowKit Go.ChangeShapes
section
variable {H : Type} {enc : TypeId × Value → H} {P : Program} {w : World} {sp : Nat → Bool} {held : Bool}
def cx0 (w : World) : Cx := ⟨w.heap.size, fun b => b < w.heap.size, fun _ => False, 0, fun _ => none⟩
def gh0 : Gh := fun _ => none
theorem gh0_own (b : Nat) : ¬ gh0.own b := by rintro ⟨r, ge, h, _⟩; cases h
theorem lie0 (b : Nat) (hb : b < w.heap.size) : mayLie (cx0 w) gh0 1 b := ⟨gh0_own b, .inr (.inl ⟨Nat.le_refl _, hb⟩)⟩
def GlobOK (w : World) : Prop := ∀ b p, glob b = some p → ∃ o, w.heap[b]? = some o ∧ p o
theorem globOK_none (h : ∀ b, glob b = none) : GlobOK w := fun b p hb => by rw [h b] at hb; cases hb
theorem st0 (hgl : GlobOK w) : RepSt (cx0 w) gh0 w (fun r => ([] : List SE)[r]?) :=
  ⟨fun r => by simp [gh0], fun r ge e h => (by cases h), fun r r' ge ge' b h => (by cases h), fun b hb => absurd hb (gh0_own b), fun b hb => absurd hb (gh0_own b), fun b p hb => ⟨hgl b p hb, gh0_own b, by
    obtain ⟨o, h1, _⟩ := hgl b p hb
    exact (Array.getElem?_eq_some_iff.1 h1).1⟩⟩
theorem law_calls (hgl : GlobOK w) {f : FuncId} {args : List PV} {vals : List Value} (h : PureCall P f args [] ⟨.bool true, [], []⟩) (hr : RepL (cx0 w) gh0 w args vals) :
    Calls P f vals.toArray w fun e w' => e = .returned (.bool true) ∧ Below w.heap.size w w' := by
  have hst : RepSt ⟨w.heap.size, (cx0 w).as, (cx0 w).ls, ([] : List SE).length, gh0⟩ gh0 w (fun r => ([] : List SE)[r]?) :=
    st0 (w := w) hgl
  refine (h.2 w gh0 (cx0 w).as (cx0 w).ls vals hst (fun b hb => hb.elim (fun h => h) (fun h => h.elim)) hr).mono ?_
  rintro e w' ⟨v, γ', rfl, hv, _, hk, _, _⟩
  cases hv.bool_inv
  exact ⟨rfl, hk.os, hk.tape, hk.output, hk.size, fun k hk' => hk.block k hk' (gh0_own k)⟩
theorem arg_one {m : Nat} {t : TypeId} {s : Sh} {v : Value} {d : DataW H} {ps : List MemPlace} (hs : shp P m t = some [s]) (hv : v.oneCell' = true) (h : DataW.Trod enc P w 0 sp held t v d ps) : ∃ p, ShR s p ∧ Rep (cx0 w) gh0 w p v := by
  obtain ⟨fuel, hf⟩ := h
  rw [cells_one hv] at hf
  obtain ⟨ps, h1, h2, _⟩ := trod_rep (X := cx0 w) (γ := gh0) lie0 _ _ _ _ _ _ hs hf
  obtain ⟨h1, h1'⟩ := h1
  match ps, h1 with
  | [p], _ =>
    obtain ⟨u, us, hu, hr, _⟩ := h2.cons_inv
    simp only [List.cons.injEq] at hu
    exact ⟨p, h1' 0 s p rfl rfl, by rw [hu.1]; exact hr⟩
theorem arg_agg {m : Nat} {t : TypeId} {shs : List Sh} {cs : Array Value} {d : DataW H} {ps : List MemPlace} (hs : shp P m t = some shs) (h : DataW.Trod enc P w 0 sp held t (.agg cs) d ps) : ∃ qs, ShL shs qs ∧ Rep (cx0 w) gh0 w (.agg qs) (.agg cs) := by
  obtain ⟨fuel, hf⟩ := h
  obtain ⟨qs, h1, h2, h3⟩ := trod_rep (X := cx0 w) (γ := gh0) lie0 _ _ _ _ _ _ hs hf
  have := Rep.agg qs cs.toList h2.1 h3 h2.2
  exact ⟨qs, h1, by simpa using this⟩
theorem Rep.le0 (hgl : GlobOK w) {p q : PV} {v : Value} (h : Rep (cx0 w) gh0 w p v) (hl : PLe (fun r => ([] : List SE)[r]?) (fun _ => true) p q) : Rep (cx0 w) gh0 w q v :=
  h.le (γk := gh0) (st0 hgl) (fun r ge b τ e z n f hr => (by cases hr)) (fun r ge hr _ => hr) (fun r ge hr => ⟨hr, rfl⟩) q hl
theorem sh_list (hgl : GlobOK w) {α : Type} [Inhabited α] (e : α → List PV) (Q : α → Prop) {shs : List Sh} (hdec : ∀ ps, ShL shs ps → ∃ x, ps = e x ∧ Q x) {p : PV} (h : ShR (.sl shs) p) {v : Value} (hr : Rep (cx0 w) gh0 w p v) :
    ∃ l : List α, Rep (cx0 w) gh0 w (.sl 1 shs.length l.length (fl e l)) v ∧ l.length ≤ maxLen ∧ ∀ x ∈ l, Q x := by
  cases h with
  | sl _ n f hn h1 h2 =>
    have hx : ∀ i, ∃ x, i < n → f i = e x ∧ Q x := fun i => by
      by_cases hi : i < n
      · obtain ⟨x, hx⟩ := hdec (f i) ⟨h1 i hi, fun j s p hs hp => h2 i j s p hi hs hp⟩
        exact ⟨x, fun _ => hx⟩
      · exact ⟨default, fun h => absurd h hi⟩
    let g : Nat → α := fun i => Classical.choose (hx i)
    have hg : ∀ i, i < n → f i = e (g i) ∧ Q (g i) := fun i => Classical.choose_spec (hx i)
    refine ⟨(List.range n).map g, hr.le0 hgl ?_, by simpa using hn, fun x hm => ?_⟩
    · refine ⟨Nat.le_refl _, rfl, by simp, fun i hi => ?_⟩
      rw [(hg i hi).1]
      simp [fl, List.getD_eq_getElem?_getD, hi]
    · obtain ⟨i, hi, rfl⟩ := List.mem_map.1 hm
      exact (hg i (List.mem_range.1 hi)).2
theorem sh_int {k : IntKind} {p : PV} (h : ShR (.int k) p) : ∃ n, p = .int k n ∧ inR k n := by cases h with | int _ n h => exact ⟨n, rfl, h⟩
theorem sh_bool {p : PV} (h : ShR .bool p) : ∃ b, p = .bool b := by cases h with | bool b => exact ⟨b, rfl⟩
theorem sh_str {p : PV} (h : ShR .str p) : ∃ s, p = .str s ∧ s.length ≤ maxLen := by cases h with | str s h => exact ⟨s, rfl, h⟩
theorem shl_cons {s : Sh} {ss : List Sh} {ps : List PV} (h : ShL (s :: ss) ps) : ∃ p qs, ps = p :: qs ∧ ShR s p ∧ ShL ss qs := by
  obtain ⟨h1, h2⟩ := h
  match ps, h1 with
  | p :: qs, h1 => exact ⟨p, qs, rfl, h2 0 s p rfl rfl, by simpa using h1, fun j s' p' hs hp => h2 (j + 1) s' p' (by simpa using hs) (by simpa using hp)⟩
theorem shl_nil {ps : List PV} (h : ShL [] ps) : ps = [] := List.eq_nil_of_length_eq_zero h.1
end
end Pv
end Go.Proofs.YtknidebojogodaaGreatDoor
/- A LAW's ROW, FROM ITS FUNCTION's CONTRACT: how long slices are that came in. -/
set_option linter.unusedSimpArgs false
set_option linter.unusedVariables false
namespace Go.Proofs.YtknidebojogodaaGreatDoor
namespace Pv
open Go.RowKit Go.ChangeShapes
section
variable {H : Type} {enc : TypeId × Value → H} {P : Program} {w : World} {sp : Nat → Bool} {held : Bool}
theorem sized_len {ts : List TypeId} {ds : List (DataW H)} (hz : (DataW.weightsEach P ts ds).all (· ≤ reachBytes) = true) {j : Nat} {t e : TypeId} {d : DataW H} {ps : List MemPlace} {a : Option Addr} {len cap : Nat}
    (ht : ts[j]? = some t) (hd : ds[j]? = some d) (hu : P.underlying t = some (.slice e)) (h : DataW.Trod enc P w 0 sp held t (.slice a len cap) d ps)
    (hb : 0 < P.bytesOf e) {X : Cx} {γ : Gh} {τ z n : Nat} {f : Nat → List PV} (hr : Rep X γ w (.sl τ z n f) (.slice a len cap)) : n ≤ 140737488351232 := by
  have hn : n = len := by cases hr; rfl
  subst hn
  obtain ⟨fuel, hf⟩ := h
  rcases DataW.trod_slice hu hf with ⟨h1, _⟩ | ⟨a', len', cap', elems, rest, m, _, h1, h2, _, _, _, h3, _⟩
  · have h1' : Value.slice a n cap = .slice none 0 0 := by simpa [Value.cells] using h1
    injection h1' with _ h4 _
    omega
  · have h1' : Value.slice a n cap = .slice (some a') len' cap' := by simpa [Value.cells] using h1
    injection h1' with _ h4 _
    injection h2 with h5 _
    subst h5
    have := sized_slice hz ht hd hu
    simp only [List.length_map] at this
    have h6 : n * 1 ≤ (elems.length + rest.length) * P.bytesOf e := Nat.mul_le_mul (by omega) hb
    have h7 : reachBytes = 140737488351232 := rfl
    omega
end
end Pv
end Go.Proofs.YtknidebojogodaaGreatDoor
set_option linter.unusedSimpArgs false
set_option linter.unusedVariables false
namespace Go.Proofs.YtknidebojogodaaGreatDoor
namespace Pv
open Go.RowKit Go.ChangeShapes
section
variable {H : Type} {enc : TypeId × Value → H} {P : Program} {w : World} {sp : Nat → Bool} {held : Bool}
def eSl {α : Type} [Inhabited α] (k : Nat) (e : α → List PV) (m : List α) : List PV := [.sl 1 k m.length (fl e m)]
theorem sh_list2 (hgl : GlobOK w) {α : Type} [Inhabited α] (e : α → List PV) (Q : α → Prop) {shs : List Sh} (hdec : ∀ ps, ShL shs ps → ∃ x, ps = e x ∧ Q x) {p : PV} (h : ShR (.sl [.sl shs]) p) {v : Value} (hr : Rep (cx0 w) gh0 w p v) :
    ∃ G : List (List α), Rep (cx0 w) gh0 w (.sl 1 1 G.length (fl (eSl shs.length e) G)) v ∧ G.length ≤ maxLen ∧ ∀ m ∈ G, ∀ x ∈ m, Q x := by
  cases h with
  | sl _ n f hn h1 h2 =>
    have hx : ∀ i, ∃ m : List α, i < n → ∃ f', f i = [.sl 1 shs.length m.length f'] ∧ RowEq m.length f' (fl e m) ∧ ∀ x ∈ m, Q x := fun i => by
      by_cases hi : i < n
      · have hl := h1 i hi
        match hf : f i, hl with
        | [c], _ =>
          have hc := h2 i 0 (.sl shs) c hi rfl (by rw [hf]; rfl)
          cases hc with
          | sl _ n' f' hn' g1 g2 =>
            have hy : ∀ i, ∃ x, i < n' → f' i = e x ∧ Q x := fun j => by
              by_cases hj : j < n'
              · obtain ⟨x, hx⟩ := hdec (f' j) ⟨g1 j hj, fun k s p hs hp => g2 j k s p hj hs hp⟩
                exact ⟨x, fun _ => hx⟩
              · exact ⟨default, fun h => absurd h hj⟩
            refine ⟨(List.range n').map fun j => Classical.choose (hy j), fun _ => ⟨f', by simp, fun j hj => ?_, fun x hm => ?_⟩⟩
            · simp only [List.length_map, List.length_range] at hj
              rw [(Classical.choose_spec (hy j) hj).1]
              simp [fl, List.getD_eq_getElem?_getD, hj]
            · obtain ⟨j, hj, rfl⟩ := List.mem_map.1 hm
              exact (Classical.choose_spec (hy j) (List.mem_range.1 hj)).2
      · exact ⟨[], fun h => absurd h hi⟩
    let g : Nat → List α := fun i => Classical.choose (hx i)
    have hg : ∀ i, i < n → ∃ f', f i = [.sl 1 shs.length (g i).length f'] ∧ RowEq (g i).length f' (fl e (g i)) ∧ ∀ x ∈ g i, Q x := fun i => Classical.choose_spec (hx i)
    refine ⟨(List.range n).map g, ?_, by simpa using hn, fun m hm => ?_⟩
    · have hget : ∀ i, i < n → fl (eSl shs.length e) ((List.range n).map g) i = [.sl 1 shs.length (g i).length (fl e (g i))] := fun i hi => by
        simp [fl, eSl, List.getD_eq_getElem?_getD, hi]
      have hlen : ((List.range n).map g).length = n := by simp
      cases hr with
      | sl _ _ _ _ ad cap vs hcap hz hf hb hh =>
        rw [hlen]
        refine .sl 1 1 n _ ad cap vs hcap (fun i hi => by rw [hget i hi]; rfl) (fun i hi c hc => ?_) hb (fun i j c hi hc => ?_)
        · rw [hget i hi] at hc
          rw [List.mem_singleton.1 hc]; rfl
        · rw [hget i hi] at hc
          obtain ⟨f', e1, e2, _⟩ := hg i hi
          cases j with
          | zero =>
            simp only [List.getElem?_cons_zero, Option.some.injEq] at hc
            subst hc
            have := hh i 0 _ hi (by rw [e1]; rfl)
            exact this.le0 hgl ⟨Nat.le_refl _, rfl, rfl, e2⟩
          | succ j => simp at hc
    · obtain ⟨i, hi, rfl⟩ := List.mem_map.1 hm
      obtain ⟨_, _, _, h3⟩ := hg i (List.mem_range.1 hi)
      exact h3
theorem weightsAll_mem {e : TypeId} : ∀ {l : List (DataW H)} {i : Nat} {d : DataW H}, l[i]? = some d → ∀ n ∈ d.weights P e, n ∈ DataW.weightsAll P e l
  | [], i, d, h, n, hn => by simp at h
  | x :: l, 0, d, h, n, hn => by
    simp only [List.getElem?_cons_zero, Option.some.injEq] at h
    subst h
    simp only [DataW.weightsAll, List.mem_append]; exact .inl hn
  | x :: l, i + 1, d, h, n, hn => by
    simp only [DataW.weightsAll, List.mem_append]; exact .inr (weightsAll_mem (by simpa using h) n hn)
theorem sized_len2 {ts : List TypeId} {ds : List (DataW H)} (hz : (DataW.weightsEach P ts ds).all (· ≤ reachBytes) = true) {j : Nat} {t e e2 : TypeId} {d : DataW H} {ps : List MemPlace} {a : Option Addr} {len cap : Nat}
    (ht : ts[j]? = some t) (hd : ds[j]? = some d) (hu : P.underlying t = some (.slice e)) (hu2 : P.underlying e = some (.slice e2)) (hce : P.cellsOf e = 1) (h : DataW.Trod enc P w 0 sp held t (.slice a len cap) d ps)
    {X : Cx} {γ : Gh} {τ n : Nat} {F : Nat → List PV} (hr : Rep X γ w (.sl τ 1 n F) (.slice a len cap)) {i τ' z' N : Nat} {f' : Nat → List PV} (hi : i < n) (hF : F i = [.sl τ' z' N f']) : N * P.bytesOf e2 ≤ 140737488351232 := by
  have hreach : reachBytes = 140737488351232 := rfl
  cases hr with
  | sl _ _ _ _ _ _ vs hcap hz' hf hb hh =>
  obtain ⟨a', rfl, _, _, hcell⟩ := hb (by omega)
  obtain ⟨fuel, hfu⟩ := h
  rcases DataW.trod_slice hu hfu with ⟨h1, _⟩ | ⟨a'', len', cap', elems, rest, m, _, h1, h2, _, _, _, h3, h4, _⟩
  · simp [Value.cells] at h1
  · have h1' : Value.slice (some a') len cap = .slice (some a'') len' cap' := by simpa [Value.cells] using h1
    injection h1' with h5 h6 h7
    injection h5 with h5
    subst h5; subst h6
    injection h2 with h8 _
    subst h8
    have h9 := h4 i hi
    rw [List.getElem?_eq_getElem (by omega), hce, Nat.mul_one] at h9
    obtain ⟨cs', g1, g2⟩ := Option.bind_eq_some_iff.1 h9
    obtain ⟨_, k2, k3⟩ := World.cells?_some g1
    have k4 := k3 0 (by omega)
    have hv := hcell i (by omega)
    rw [add_add_, Nat.add_zero, hv] at k4
    have hcs : cs' = [vs i] := by
      match cs', k2, k4 with
      | [x], _, k4 => simp only [List.getElem?_cons_zero, Option.some.injEq] at k4; rw [k4]
    have hrep := hh i 0 _ hi (by rw [hF]; rfl)
    rw [Nat.mul_one, Nat.add_zero] at hrep
    simp only [PV.mark] at hrep
    subst hcs
    generalize vs i = u at hrep g2
    cases hrep with
    | sl _ _ _ _ ad cap2 vs2 _ _ _ _ _ =>
    rcases DataW.trod_slice hu2 g2 with ⟨q1, _⟩ | ⟨b, len2, cap3, elems2, rest2, m2, _, q1, q2, _, _, _, q3, _⟩
    · have q1' : Value.slice ad N cap2 = .slice none 0 0 := by simpa using q1
      injection q1' with _ q5 _
      subst q5; rw [Nat.zero_mul]; exact Nat.zero_le _
    · have q1' : Value.slice ad N cap2 = .slice (some b) len2 cap3 := by simpa using q1
      injection q1' with _ q5 _
      subst q5
      have hmem : (elems2.map (·.1)).length * P.bytesOf e2 ≤ ((elems2.map (·.1)).length + (rest2.map (·.1)).length) * P.bytesOf e2 := Nat.mul_le_mul_right _ (by omega)
      have he : (elems.map (·.1))[i]? = some (DataW.slice (elems2.map (·.1)) (rest2.map (·.1))) := by
        rw [List.getElem?_map, List.getElem?_eq_getElem (by omega), Option.map_some, q2]
      have hw1 : ((elems2.map (·.1)).length + (rest2.map (·.1)).length) * P.bytesOf e2 ∈ DataW.weightsEach P ts ds := by
        refine DataW.weights_mem_each ht hd _ ?_
        simp only [DataW.weights, hu, List.mem_cons, List.mem_append]
        refine .inr (.inl (weightsAll_mem he _ ?_))
        simp [DataW.weights, hu2]
      have := List.all_eq_true.1 hz _ hw1
      have h10 : ((elems2.map (·.1)).length + (rest2.map (·.1)).length) * P.bytesOf e2 ≤ reachBytes := by simpa using this
      have h11 : (elems2.map (·.1)).length = N := by rw [List.length_map]; exact q3
      rw [h11] at hmem h10
      omega
end
end Pv
end Go.Proofs.YtknidebojogodaaGreatDoor
