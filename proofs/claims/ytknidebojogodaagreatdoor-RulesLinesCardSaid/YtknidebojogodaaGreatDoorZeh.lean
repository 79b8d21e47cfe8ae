/- LAW 13, PLAIN: what the program reads of a line's words is what they say; conditions are read back from their text. -/
import Derived.Test.YtknidebojogodaaGreatDoorZeg
/- LAW 13, THE WALKS: conditions as text. -/
set_option linter.unusedSimpArgs false
set_option linter.unusedVariables false
namespace Go.Proofs.YtknidebojogodaaGreatDoor
namespace Pv
def c25L1 : C := (.seq (.reg [⟨(some 12), 192, none, .bi false .lss (.t 11) (.t 10)⟩])
  (.seq (.cond (.t 12) .skip (.exit 0))
  (.seq (.block 1 (.seq (.reg [⟨(some 13), 208, none, .ia 1 (.t 9) (.t 11)⟩,
    ⟨(some 14), 224, none, .ld 1 false (.t 13)⟩,
    ⟨(some 6), 96, none, .mv (.t 14)⟩])
  (.reg [⟨(some 15), 240, none, .mv (.t 6)⟩,
    ⟨(some 16), 256, none, .call (.c (.fn (.func 27) [] [])) [(.t 15)]⟩,
    ⟨(some 17), 272, none, .bi false .add (.c (.str [32])) (.t 16)⟩,
    ⟨(some 18), 288, none, .call (.c (.fn (.func 26) [] [])) [(.t 2), (.t 17)]⟩])))
  (.reg [⟨(some 19), 304, none, .bi false .add (.t 11) (.c (.int .i64 1))⟩,
    ⟨(some 11), 176, none, .mv (.t 19)⟩]))))
def c25 : C := (.seq (.reg [⟨(some 7), 112, none, .mv (.t 0)⟩,
    ⟨(some 8), 128, none, .call (.c (.fn (.func 26) [] [])) [(.t 2), (.t 7)]⟩])
  (.seq (.reg [⟨(some 9), 144, none, .mv (.t 1)⟩,
    ⟨(some 10), 160, none, .len (.t 9)⟩,
    ⟨(some 11), 176, none, .mv (.c (.int .i64 0))⟩])
  (.block 0 (.loop c25L1))))
theorem fits25 : fits Tryz.prog false Tryz.f25 3 20 [] = some c25.er := by kernel_rfl
def c9L1 : C := (.seq (.reg [⟨(some 18), 288, none, .bi false .lss (.t 17) (.t 16)⟩])
  (.seq (.cond (.t 18) .skip (.exit 0))
  (.seq (.block 1 (.seq (.reg [⟨(some 19), 304, none, .ia 7 (.t 15) (.t 17)⟩,
    ⟨(some 20), 320, none, .ld 7 true (.t 19)⟩,
    ⟨(some 8), 128, none, .al [(.int .i64 0), (.int .i64 0), (.int .i64 0), (.int .i64 0), (.int .i64 0), (.int .i64 0), (.int .i64 0)]⟩,
    ⟨none, 0, none, .st 7 (.t 8) (.t 20)⟩])
  (.seq (.reg [⟨(some 21), 336, none, .mv (.t 6)⟩,
    ⟨(some 22), 352, none, .fa 0 (.t 8)⟩,
    ⟨(some 23), 368, none, .ld 1 false (.t 22)⟩,
    ⟨(some 24), 384, none, .bs 3 1 [(.t 23)]⟩,
    ⟨(some 25), 400, none, .call (.t 21) [(.c (.str [114, 97, 110, 107])), (.t 24)]⟩])
  (.cut (.seq (.drw [⟨(some 26), 416, none, .mv (.t 6)⟩,
    ⟨(some 27), 432, none, .fa 1 (.t 8)⟩,
    ⟨(some 28), 448, none, .ld 1 false (.t 27)⟩,
    ⟨(some 29), 464, none, .iaa 5 1 (.c (.rp 1 [(.str []), (.str [108, 101, 97, 115, 116]), (.str [109, 111, 115, 116]), (.str [117, 112]), (.str [100, 111, 119, 110])])) (.t 28)⟩,
    ⟨(some 30), 480, none, .ld 1 false (.t 29)⟩,
    ⟨(some 31), 496, none, .bi false .add (.c (.str [32])) (.t 30)⟩,
    ⟨(some 32), 512, none, .fa 2 (.t 8)⟩,
    ⟨(some 33), 528, none, .ld 1 false (.t 32)⟩,
    ⟨(some 34), 544, none, .bs 3 1 [(.t 33)]⟩,
    ⟨(some 35), 560, none, .call (.t 26) [(.t 31), (.t 34)]⟩]
    [(0, 1, 26), (0, 2, 26), (0, 3, 26), (0, 4, 26), (0, 5, 26), (0, 6, 26), (0, 7, 26), (0, 8, 26), (1, 6, 27), (1, 7, 27), (1, 8, 27), (2, 6, 28), (2, 7, 28), (2, 8, 28), (3, 6, 29), (3, 7, 29), (3, 8, 29), (4, 6, 30), (4, 7, 30), (4, 8, 30), (5, 6, 31), (5, 7, 31), (5, 8, 31)])
  (.cut (.seq (.seq (.reg [⟨(some 36), 576, none, .fa 3 (.t 8)⟩,
    ⟨(some 37), 592, none, .ld 2 true (.t 36)⟩,
    ⟨(some 38), 608, none, .bd [(.int .i64 0), (.int .i64 0)] [(1, 1, (.c (.int .i64 364)))]⟩,
    ⟨(some 39), 624, none, .eqa true [0, 0] (.t 37) (.t 38)⟩])
  (.cond (.t 39) (.reg [⟨(some 40), 640, none, .mv (.t 6)⟩,
    ⟨(some 41), 656, none, .fa 3 (.t 8)⟩,
    ⟨(some 42), 672, none, .fa 0 (.t 41)⟩,
    ⟨(some 43), 688, none, .ld 1 false (.t 42)⟩,
    ⟨(some 44), 704, none, .fa 3 (.t 8)⟩,
    ⟨(some 45), 720, none, .fa 1 (.t 44)⟩,
    ⟨(some 46), 736, none, .ld 1 false (.t 45)⟩,
    ⟨(some 47), 752, none, .bs 3 1 [(.t 43), (.t 46)]⟩,
    ⟨(some 48), 768, none, .call (.t 40) [(.c (.str [32, 100, 97, 121, 115])), (.t 47)]⟩]) .skip))
  (.cut (.seq (.seq (.reg [⟨(some 49), 784, none, .fa 5 (.t 8)⟩,
    ⟨(some 50), 800, none, .ld 1 false (.t 49)⟩,
    ⟨(some 51), 816, none, .bi false .neq (.t 50) (.c (.int .i64 0))⟩])
  (.cond (.t 51) (.reg [⟨(some 52), 832, none, .mv (.t 6)⟩,
    ⟨(some 53), 848, none, .fa 5 (.t 8)⟩,
    ⟨(some 54), 864, none, .ld 1 false (.t 53)⟩,
    ⟨(some 55), 880, none, .bs 3 1 [(.t 54)]⟩,
    ⟨(some 56), 896, none, .call (.t 52) [(.c (.str [32, 97, 98, 111, 118, 101])), (.t 55)]⟩]) .skip))
  (.cut (.seq (.seq (.reg [⟨(some 57), 912, none, .fa 6 (.t 8)⟩,
    ⟨(some 58), 928, none, .ld 1 false (.t 57)⟩,
    ⟨(some 59), 944, none, .bi false .neq (.t 58) (.c (.int .i64 16777216))⟩])
  (.cond (.t 59) (.reg [⟨(some 60), 960, none, .mv (.t 6)⟩,
    ⟨(some 61), 976, none, .fa 6 (.t 8)⟩,
    ⟨(some 62), 992, none, .ld 1 false (.t 61)⟩,
    ⟨(some 63), 1008, none, .bs 3 1 [(.t 62)]⟩,
    ⟨(some 64), 1024, none, .call (.t 60) [(.c (.str [32, 98, 101, 108, 111, 119])), (.t 63)]⟩]) .skip))
  (.reg [⟨(some 65), 1040, none, .call (.c (.fn (.func 28) [] [])) [(.t 5), (.c (.int .u8 10))]⟩]))))))))))))
  (.reg [⟨(some 66), 1056, none, .bi false .add (.t 17) (.c (.int .i64 1))⟩,
    ⟨(some 17), 272, none, .mv (.t 66)⟩]))))
def c9 : C := (.seq (.reg [⟨(some 2), 32, none, .mv (.c (.str []))⟩,
    ⟨(some 3), 48, none, .mv (.c (.int .i64 0))⟩])
  (.seq (.seq (.reg [⟨(some 9), 144, none, .mv (.t 0)⟩,
    ⟨(some 10), 160, none, .call (.c (.fn (.func 24) [] [])) [(.t 9)]⟩,
    ⟨(some 4), 64, none, .mv (.t 10)⟩])
  (.seq (.reg [⟨(some 11), 176, none, .mv (.t 4)⟩,
    ⟨(some 12), 192, none, .bi false .neq (.t 11) (.c (.int .i64 0))⟩])
  (.cond (.t 12) (.seq (.reg [⟨(some 13), 208, none, .mv (.t 4)⟩,
    ⟨(some 2), 32, none, .mv (.c (.str []))⟩,
    ⟨(some 3), 48, none, .mv (.t 13)⟩])
  .ret) .skip)))
  (.seq (.reg [⟨(some 5), 80, none, .alb 57 5⟩])
  (.seq (.reg [⟨(some 14), 224, none, .mf (.func 25) [] [(.t 5)]⟩,
    ⟨(some 6), 96, none, .mv (.t 14)⟩])
  (.seq (.seq (.reg [⟨(some 15), 240, none, .mv (.t 0)⟩,
    ⟨(some 16), 256, none, .len (.t 15)⟩,
    ⟨(some 17), 272, none, .mv (.c (.int .i64 0))⟩])
  (.block 0 (.loop c9L1)))
  (.seq (.reg [⟨(some 67), 1072, none, .call (.c (.fn (.func 29) [] [])) [(.t 5)]⟩,
    ⟨(some 2), 32, none, .mv (.t 67)⟩,
    ⟨(some 3), 48, none, .mv (.c (.int .i64 0))⟩])
  .ret))))))
theorem fits9 : fits Tryz.prog false Tryz.f9 1 68 [(2, none), (3, none)] = some c9.er := by kernel_rfl
def putT (w : List UInt8) (l : List Int) : List UInt8 := w ++ l.flatMap fun n => 32 :: Lib.itoa n
theorem putT_take {w : List UInt8} {l : List Int} {i : Nat} (h : i < l.length) : putT w (l.take (i + 1)) = putT w (l.take i) ++ (32 :: Lib.itoa (l.getD i default)) := by
  have : l.take (i + 1) = l.take i ++ [l.getD i default] := by rw [List.take_add_one, getD_some h]; rfl
  rw [this]; simp [putT]
def r64 (n : Int) : Prop := -9223372036854775808 ≤ n ∧ n ≤ 9223372036854775807
theorem putT_len (w : List UInt8) : ∀ (l : List Int), (∀ n ∈ l, r64 n) → (putT w l).length ≤ w.length + 22 * l.length
  | [], _ => by simp [putT]
  | n :: l, h => by
    have ih := putT_len w l fun m hm => h m (List.mem_cons_of_mem _ hm)
    have h1 := h n (List.mem_cons_self ..)
    have h2 := Lib.itoa_length_le n h1.1 h1.2
    simp only [putT, List.flatMap_cons, List.length_append, List.length_cons] at ih ⊢
    omega
set_option maxRecDepth 100000 in
theorem call25 (w : List UInt8) (l : List Int) (s : List UInt8) (hs : s.length ≤ 1000000000) (hw : w.length ≤ 100) (hl : l.length ≤ 4) (hr : ∀ n ∈ l, r64 n) :
    PureCall Tryz.prog 25 [.str w, .sl 2 1 l.length (fl eInt l), .pt 0 0 0] [.bld 57 5 s] ⟨.tup [], [.bld 57 5 (s ++ putT w l)], []⟩ := by
  refine pure_call mix Tryz.func25 fits25 rfl ?_
  conv => whnf
  refine ⟨_, fun _ => call26 s w (by omega), ?_⟩
  conv => whnf
  refine ⟨?_, ?_⟩
  · exact g0
  refine LSem.loop (n := 20) mix (α := Nat) (fun i => i ≤ l.length)
    (fun i => [(2, .pt 0 0 0), (9, .sl 2 1 l.length (fl eInt l)), (10, .int .i64 l.length), (11, .int .i64 i)])
    (fun i => [(0, .bld 57 5 (s ++ putT w (l.take i)))]) (fun i => l.length - i) 0 ?_ ?_ ?_
  · exact Nat.zero_le _
  · have q : s ++ w = s ++ putT w (l.take 0) := by simp [putT]
    refine ⟨rfl, rfl, ?_, ?_⟩ <;> exact ent
  · intro i hi
    have hj : ((i : Int)).toNat = i := by omega
    conv => whnf
    refine ⟨trivial, fun hc => ?_, fun hc => ?_⟩
    · replace hc := of_decide_eq_true hc
      have hlt : i < l.length := by
        have h : (i : Int) < l.length := hc
        omega
      have hn := hr _ (getD_mem hlt)
      have hT := putT_len w (l.take i) fun n hm => hr n (List.mem_of_mem_take hm)
      have hTl : (l.take i).length ≤ l.length := by rw [List.length_take]; omega
      have hst := putT_take (w := w) hlt
      have hx := Lib.itoa_length_le (l.getD i default) hn.1 hn.2
      conv => whnf
      rw [hj]
      generalize l.getD i default = n at hn hst hx ⊢
      refine ⟨_, fun _ => call27 n hn.1 hn.2, ?_⟩
      conv => whnf
      refine ⟨_, fun _ => call26 (s ++ putT w (l.take i)) ([32] ++ Lib.itoa n) (by simp only [List.length_append, List.length_cons, List.length_nil]; omega), ?_⟩
      have q : (s ++ putT w (l.take i)) ++ ([32] ++ Lib.itoa n) = s ++ putT w (l.take (i + 1)) := by rw [hst, List.append_assoc]; rfl
      rw [q]
      conv => whnf
      refine ⟨?_, i + 1, hlt, by omega, rfl, rfl, ?_, ?_⟩
      · exact g1
      · exact ent
      · exact ent
    · replace hc := of_decide_eq_false hc
      have hk : i = l.length := by
        have h : ¬ (i : Int) < l.length := hc
        omega
      subst hk
      rw [List.take_length]
      conv => whnf
      exact retB
theorem call25a (w : List UInt8) (n : Int) (s : List UInt8) (hs : s.length ≤ 1000000000) (hw : w.length ≤ 100) (hr : r64 n) :
    PureCall Tryz.prog 25 [.str w, .sl 2 1 [[PV.int .i64 n]].length (fun i => [[PV.int .i64 n]].getD i []), .pt 0 0 0] [.bld 57 5 s] ⟨.tup [], [.bld 57 5 (s ++ putT w [n])], []⟩ :=
  PureCall.arg_le (call25 w [n] s hs hw (by simp) (by simpa using hr)) rfl ⟨ent, ⟨Nat.le_refl _, rfl, rfl, fun i hi => by match i, hi with | 0, _ => rfl⟩, ent, trivial⟩
theorem call25b (w : List UInt8) (n m : Int) (s : List UInt8) (hs : s.length ≤ 1000000000) (hw : w.length ≤ 100) (hr : r64 n ∧ r64 m) :
    PureCall Tryz.prog 25 [.str w, .sl 2 1 [[PV.int .i64 n], [PV.int .i64 m]].length (fun i => [[PV.int .i64 n], [PV.int .i64 m]].getD i []), .pt 0 0 0] [.bld 57 5 s] ⟨.tup [], [.bld 57 5 (s ++ putT w [n, m])], []⟩ :=
  PureCall.arg_le (call25 w [n, m] s hs hw (by simp) (by simpa using hr)) rfl ⟨ent, ⟨Nat.le_refl _, rfl, rfl, fun i hi => by match i, hi with | 0, _ => rfl | 1, _ => rfl⟩, ent, trivial⟩
def daysT (c : Cd) : List UInt8 := if c.f = 0 ∧ c.u = 364 then [] else putT (32 :: wDays) [c.f, c.u]
def aboveT (c : Cd) : List UInt8 := if c.a = 0 then [] else putT (32 :: wAbove) [c.a]
def belowT (c : Cd) : List UInt8 := if c.b = 16777216 then [] else putT (32 :: wBelow) [c.b]
def headT (c : Cd) : List UInt8 := putT wRank [c.r] ++ putT (32 :: kindW c.k) [c.v]
def lineT (c : Cd) : List UInt8 := headT c ++ (daysT c ++ (aboveT c ++ (belowT c ++ [10])))
def printC (l : List Cd) : List UInt8 := l.flatMap lineT
theorem allC_ok : ∀ {l : List Cd}, allC l = 0 → ∀ c ∈ l, oneC c = 0
  | [], _, c, h => by simp at h
  | x :: l, h, c, hc => by
    unfold allC at h
    split at h
    · rename_i h2; exact absurd h h2
    · rename_i h2
      rcases List.mem_cons.1 hc with rfl | hc
      · exact Classical.not_not.1 h2
      · exact allC_ok h c hc
theorem limC_ok {l : List Cd} (h : limC l = 0) : l.length ≤ 200 ∧ ∀ c ∈ l, oneC c = 0 := by
  unfold limC at h
  split at h
  · cases h
  · exact ⟨by omega, allC_ok h⟩
theorem kindW_len (k : Int) : (kindW k).length ≤ 5 := by
  unfold kindW
  repeat' split
  all_goals decide
theorem parts_len {c : Cd} (h : oneC c = 0) : (headT c).length ≤ 60 ∧ (daysT c).length ≤ 60 ∧ (aboveT c).length ≤ 60 ∧ (belowT c).length ≤ 60 := by
  obtain ⟨h1, h2, h3⟩ := oneC_ok h
  unfold badC at h3
  have hk := kindW_len c.k
  have e1 := putT_len wRank [c.r] (by simp [r64]; omega)
  have e2 := putT_len (32 :: kindW c.k) [c.v] (by simp [r64]; omega)
  have e3 := putT_len (32 :: wDays) [c.f, c.u] (by simp [r64]; omega)
  have e4 := putT_len (32 :: wAbove) [c.a] (by simp [r64]; omega)
  have e5 := putT_len (32 :: wBelow) [c.b] (by simp [r64]; omega)
  have l1 : wRank.length = 4 := rfl
  have l2 : wDays.length = 4 := rfl
  have l3 : wAbove.length = 5 := rfl
  have l4 : wBelow.length = 5 := rfl
  simp only [List.length_cons, List.length_nil] at e1 e2 e3 e4 e5
  refine ⟨?_, ?_, ?_, ?_⟩
  · unfold headT; rw [List.length_append]; omega
  · unfold daysT; split
    · exact Nat.zero_le _
    · omega
  · unfold aboveT; split
    · exact Nat.zero_le _
    · omega
  · unfold belowT; split
    · exact Nat.zero_le _
    · omega
theorem printC_take {l : List Cd} {i : Nat} (h : i < l.length) : printC (l.take (i + 1)) = printC (l.take i) ++ lineT (l.getD i default) := by
  have : l.take (i + 1) = l.take i ++ [l.getD i default] := by rw [List.take_add_one, getD_some h]; rfl
  rw [this]; simp [printC]
theorem lineT_len {c : Cd} (h : oneC c = 0) : (lineT c).length ≤ 250 := by
  obtain ⟨h1, h2, h3, h4⟩ := parts_len h
  simp only [lineT, List.length_append, List.length_cons, List.length_nil]
  omega
theorem printC_len : ∀ {l : List Cd}, (∀ c ∈ l, oneC c = 0) → (printC l).length ≤ 250 * l.length
  | [], _ => Nat.le_refl _
  | c :: l, h => by
    have ih := printC_len (l := l) fun x hx => h x (List.mem_cons_of_mem _ hx)
    have h1 := lineT_len (h c (List.mem_cons_self ..))
    simp only [printC, List.flatMap_cons, List.length_append, List.length_cons] at ih ⊢
    omega
theorem call9_bad (τ : Nat) (l : List Cd) (hb : limC l ≠ 0) : PureCall Tryz.prog 9 [.sl τ 7 l.length (fl eCd l)] [] ⟨.tup [.str [], .int .i64 (limC l)], [], []⟩ := by
  refine pure_call mix Tryz.func9 fits9 rfl ?_
  conv => whnf
  refine ⟨_, fun _ => call24 _ l, ?_⟩
  generalize limC l = e at hb ⊢
  conv => whnf
  refine ⟨?_, fun hc => ?_, fun hc => ?_⟩
  · exact g0
  · conv => whnf
    exact ret
  · exact absurd (by simpa using hc) hb
set_option maxRecDepth 100000 in
set_option maxHeartbeats 8000000 in
theorem call9 (τ : Nat) (l : List Cd) (hb : limC l = 0) : PureCall Tryz.prog 9 [.sl τ 7 l.length (fl eCd l)] [] ⟨.tup [.str (printC l), .int .i64 0], [], []⟩ := by
  obtain ⟨hl2, hV⟩ := limC_ok hb
  refine pure_call mix Tryz.func9 fits9 rfl ?_
  conv => whnf
  refine ⟨_, fun _ => call24 _ l, ?_⟩
  rw [hb]
  conv => whnf
  refine ⟨?_, fun hc => Bool.noConfusion (show false = true from hc), fun hc => ?_⟩
  · exact g0
  conv => whnf
  refine ⟨trivial, ?_⟩
  refine LSem.loop (n := 68) mix (α := Nat) (fun i => i ≤ l.length)
    (fun i => [(5, .pt 80 0 0), (6, .fn (.func 25) [] [.pt 80 0 0]), (15, .sl τ 7 l.length (fl eCd l)), (16, .int .i64 l.length), (17, .int .i64 i)])
    (fun i => [(80, .bld 57 5 (printC (l.take i)))]) (fun i => l.length - i) 0 ?_ ?_ ?_
  · exact Nat.zero_le _
  · refine ⟨rfl, rfl, ?_, ?_⟩ <;> exact ent
  · intro i hi
    have hj : ((i : Int)).toNat = i := by omega
    conv => whnf
    refine ⟨trivial, fun hc => ?_, fun hc => ?_⟩
    · replace hc := of_decide_eq_true hc
      have hlt : i < l.length := by
        have h : (i : Int) < l.length := hc
        omega
      have hpl := printC_len (l := l.take i) fun c hc => hV c (List.mem_of_mem_take hc)
      have hpl2 : (l.take i).length ≤ 200 := by rw [List.length_take]; omega
      have hpt := printC_take hlt
      have hone := hV _ (getD_mem hlt)
      have hpn := parts_len hone
      conv => whnf
      rw [hj]
      generalize l.getD i default = c at hpt hone hpn ⊢
      generalize printC (l.take i) = T at hpl hpt ⊢
      obtain ⟨o1, o2, o3⟩ := oneC_ok hone
      unfold badC at o3
      obtain ⟨p1, p2, p3, p4⟩ := hpn
      refine ⟨_, fun _ => call25a wRank c.r T (by omega) (by decide) (by unfold r64; omega), ?_⟩
      have hT1 : (T ++ putT wRank [c.r]).length ≤ 60000 := by
        have := putT_len wRank [c.r] (by simp [r64]; omega)
        simp only [List.length_append, List.length_cons, List.length_nil] at this ⊢
        have l1 : wRank.length = 4 := rfl
        omega
      conv => whnf
      refine ⟨?_, ?_⟩
      · exact g0
      refine LSem.meet (n := 68) mix (α := Unit) (fun _ => True)
        (fun _ => [(5, .pt 80 0 0), (6, .fn (.func 25) [] [.pt 80 0 0]), (8, .pt 128 0 0), (15, .sl τ 7 l.length (fl eCd l)), (16, .int .i64 l.length), (17, .int .i64 i)])
        (fun _ => [(80, .bld 57 5 (T ++ headT c)), (128, .box (eCd c))]) ?_ ?_
      · have hk : c.k = 1 ∨ c.k = 2 ∨ c.k = 3 ∨ c.k = 4 := by omega
        have key : ∀ K : List UInt8, kindW c.k = K → T ++ putT wRank [c.r] ++ putT ([32] ++ K) [c.v] = T ++ headT c := fun K hK => by rw [← hK, List.append_assoc]; rfl
        have hv : r64 c.v := by unfold r64; omega
        obtain ⟨r, k, v, f, u, a, b⟩ := c
        dsimp only at hk hv hT1
        rcases hk with rfl | rfl | rfl | rfl
        · have q := key wLeast rfl
          conv => whnf
          refine ⟨_, fun _ => call25a ([32] ++ wLeast) v (T ++ putT wRank [r]) (by omega) (by decide) hv, ?_⟩
          rw [q]
          conv => whnf
          refine ⟨rfl, ?_⟩
          conv => whnf
          refine ⟨?_, (), trivial, rfl, rfl, ?_, ?_⟩
          · exact g0
          · exact ent
          · exact ent
        · have q := key wMost rfl
          conv => whnf
          refine ⟨_, fun _ => call25a ([32] ++ wMost) v (T ++ putT wRank [r]) (by omega) (by decide) hv, ?_⟩
          rw [q]
          conv => whnf
          refine ⟨rfl, ?_⟩
          conv => whnf
          refine ⟨?_, (), trivial, rfl, rfl, ?_, ?_⟩
          · exact g0
          · exact ent
          · exact ent
        · have q := key wUp rfl
          conv => whnf
          refine ⟨_, fun _ => call25a ([32] ++ wUp) v (T ++ putT wRank [r]) (by omega) (by decide) hv, ?_⟩
          rw [q]
          conv => whnf
          refine ⟨rfl, ?_⟩
          conv => whnf
          refine ⟨?_, (), trivial, rfl, rfl, ?_, ?_⟩
          · exact g0
          · exact ent
          · exact ent
        · have q := key wDown rfl
          conv => whnf
          refine ⟨_, fun _ => call25a ([32] ++ wDown) v (T ++ putT wRank [r]) (by omega) (by decide) hv, ?_⟩
          rw [q]
          conv => whnf
          refine ⟨rfl, ?_⟩
          conv => whnf
          refine ⟨?_, (), trivial, rfl, rfl, ?_, ?_⟩
          · exact g0
          · exact ent
          · exact ent
      rintro ⟨⟩ -
      have hT2 : (T ++ headT c).length ≤ 60000 := by rw [List.length_append]; omega
      conv => whnf
      refine ⟨trivial, ?_⟩
      refine LSem.meet (n := 68) mix (α := Unit) (fun _ => True)
        (fun _ => [(5, .pt 80 0 0), (6, .fn (.func 25) [] [.pt 80 0 0]), (8, .pt 128 0 0), (15, .sl τ 7 l.length (fl eCd l)), (16, .int .i64 l.length), (17, .int .i64 i)])
        (fun _ => [(80, .bld 57 5 (T ++ headT c ++ daysT c)), (128, .box (eCd c))]) ?_ ?_
      · conv => whnf
        by_cases hd : c.f = 0 ∧ c.u = 364
        · have q : T ++ headT c = T ++ headT c ++ daysT c := by unfold daysT; rw [if_pos hd, List.append_nil]
          refine ⟨trivial, fun hc => ?_, fun hc => ?_⟩
          · exact absurd hc (by rw [hd.1, hd.2]; decide)
          conv => whnf
          refine ⟨?_, (), trivial, rfl, rfl, ?_, ?_⟩
          · exact g0
          · exact ent
          · exact ent
        · have q : T ++ headT c ++ putT (32 :: wDays) [c.f, c.u] = T ++ headT c ++ daysT c := by unfold daysT; rw [if_neg hd]
          refine ⟨trivial, fun hc => ?_, fun hc => ?_⟩
          · conv => whnf
            refine ⟨_, fun _ => call25b (32 :: wDays) c.f c.u (T ++ headT c) (by omega) (by decide) (by unfold r64; omega), ?_⟩
            rw [q]
            conv => whnf
            refine ⟨?_, (), trivial, rfl, rfl, ?_, ?_⟩
            · exact g0
            · exact ent
            · exact ent
          · refine absurd hc fun hc => hd ?_
            replace hc : (!(c.f == 0 && (c.u == 364 && true))) = false := hc
            simpa using hc
      rintro ⟨⟩ -
      have hT3 : (T ++ headT c ++ daysT c).length ≤ 60100 := by rw [List.length_append]; omega
      conv => whnf
      refine ⟨trivial, ?_⟩
      refine LSem.meet (n := 68) mix (α := Unit) (fun _ => True)
        (fun _ => [(5, .pt 80 0 0), (6, .fn (.func 25) [] [.pt 80 0 0]), (8, .pt 128 0 0), (15, .sl τ 7 l.length (fl eCd l)), (16, .int .i64 l.length), (17, .int .i64 i)])
        (fun _ => [(80, .bld 57 5 (T ++ headT c ++ daysT c ++ aboveT c)), (128, .box (eCd c))]) ?_ ?_
      · conv => whnf
        refine ⟨trivial, fun hc => ?_, fun hc => ?_⟩
        · simp only [bp] at hc
          have q : T ++ headT c ++ daysT c ++ putT (32 :: wAbove) [c.a] = T ++ headT c ++ daysT c ++ aboveT c := by unfold aboveT; rw [if_neg hc]
          conv => whnf
          refine ⟨_, fun _ => call25a (32 :: wAbove) c.a (T ++ headT c ++ daysT c) (by omega) (by decide) (by unfold r64; omega), ?_⟩
          rw [q]
          conv => whnf
          refine ⟨?_, (), trivial, rfl, rfl, ?_, ?_⟩
          · exact g0
          · exact ent
          · exact ent
        · simp only [bp] at hc
          have q : T ++ headT c ++ daysT c = T ++ headT c ++ daysT c ++ aboveT c := by unfold aboveT; rw [if_pos hc, List.append_nil]
          conv => whnf
          refine ⟨?_, (), trivial, rfl, rfl, ?_, ?_⟩
          · exact g0
          · exact ent
          · exact ent
      rintro ⟨⟩ -
      have hT4 : (T ++ headT c ++ daysT c ++ aboveT c).length ≤ 60200 := by rw [List.length_append]; omega
      conv => whnf
      refine ⟨trivial, ?_⟩
      refine LSem.meet (n := 68) mix (α := Unit) (fun _ => True)
        (fun _ => [(5, .pt 80 0 0), (6, .fn (.func 25) [] [.pt 80 0 0]), (8, .pt 128 0 0), (15, .sl τ 7 l.length (fl eCd l)), (16, .int .i64 l.length), (17, .int .i64 i)])
        (fun _ => [(80, .bld 57 5 (T ++ headT c ++ daysT c ++ aboveT c ++ belowT c)), (128, .box (eCd c))]) ?_ ?_
      · conv => whnf
        refine ⟨trivial, fun hc => ?_, fun hc => ?_⟩
        · simp only [bp] at hc
          have q : T ++ headT c ++ daysT c ++ aboveT c ++ putT (32 :: wBelow) [c.b] = T ++ headT c ++ daysT c ++ aboveT c ++ belowT c := by unfold belowT; rw [if_neg hc]
          conv => whnf
          refine ⟨_, fun _ => call25a (32 :: wBelow) c.b (T ++ headT c ++ daysT c ++ aboveT c) (by omega) (by decide) (by unfold r64; omega), ?_⟩
          rw [q]
          conv => whnf
          refine ⟨?_, (), trivial, rfl, rfl, ?_, ?_⟩
          · exact g0
          · exact ent
          · exact ent
        · simp only [bp] at hc
          have q : T ++ headT c ++ daysT c ++ aboveT c = T ++ headT c ++ daysT c ++ aboveT c ++ belowT c := by unfold belowT; rw [if_pos hc, List.append_nil]
          conv => whnf
          refine ⟨?_, (), trivial, rfl, rfl, ?_, ?_⟩
          · exact g0
          · exact ent
          · exact ent
      rintro ⟨⟩ -
      have hT5 : (T ++ headT c ++ daysT c ++ aboveT c ++ belowT c).length ≤ 60300 := by rw [List.length_append]; omega
      have q : (T ++ headT c ++ daysT c ++ aboveT c ++ belowT c) ++ [10] = printC (l.take (i + 1)) := by rw [hpt]; simp [lineT]
      conv => whnf
      refine ⟨_, fun _ => call28 (T ++ headT c ++ daysT c ++ aboveT c ++ belowT c) 10 (by omega), ?_⟩
      rw [q]
      conv => whnf
      refine ⟨?_, i + 1, hlt, by omega, rfl, rfl, ?_, ?_⟩
      · exact g0
      · exact ent
      · exact ent
    · replace hc := of_decide_eq_false hc
      have hk : i = l.length := by
        have h : ¬ (i : Int) < l.length := hc
        omega
      subst hk
      rw [List.take_length]
      conv => whnf
      refine ⟨_, fun _ => call29z (printC l), ?_⟩
      conv => whnf
      exact ret
end Pv
end Go.Proofs.YtknidebojogodaaGreatDoor
set_option linter.unusedSimpArgs false
set_option linter.unusedVariables false
namespace Go.Proofs.YtknidebojogodaaGreatDoor
namespace Pv
def outO (x : Cd × Bool) : Option Cd := if x.2 = true then some x.1 else none
theorem partsG_bad (n : Nat) (c : Cd) (d a b : Bool) (w : List (List UInt8)) : outO (partsG n c true d a b w) = none := by
  cases n with
  | zero => rfl
  | succ n => unfold partsG; rw [if_pos rfl]; rfl
theorem partsG_badE {x : Bool} (hx : x = true) (n : Nat) (c : Cd) (d a b : Bool) (w : List (List UInt8)) : outO (partsG n c x d a b w) = none := by
  subst hx; exact partsG_bad ..
theorem partsG_O (n : Nat) : ∀ (c : Cd) (d a b : Bool) (w : List (List UInt8)), w.length < n → outO (partsG n c false d a b w) = partsO c d a b w := by
  induction n with
  | zero => intro c d a b w h; omega
  | succ n ih =>
    intro c d a b w h
    match w, h with
    | [], h => unfold partsG partsO; rfl
    | [x], h =>
      unfold partsG partsO
      dsimp only
      rw [if_neg (by decide)]
      split
      · exact partsG_badE (by cases d <;> rfl) ..
      · split
        · exact partsG_badE (by cases a <;> rfl) ..
        · split
          · exact partsG_badE (by cases b <;> rfl) ..
          · rfl
    | x :: y :: r, h =>
      simp only [List.length_cons] at h
      have hy : numB (y :: r) = (numF y).isNone := rfl
      have hg : numG (y :: r) = (numF y).getD 0 := rfl
      unfold partsG partsO
      dsimp only
      rw [if_neg (by decide)]
      by_cases e1 : x = wDays
      · rw [if_pos e1, if_pos e1]
        cases d with
        | true => rw [if_pos rfl]; exact partsG_badE rfl ..
        | false =>
          rw [if_neg (by decide)]
          cases r with
          | nil => exact partsG_badE (by show ((false || numB [y]) || true) = true; exact Bool.or_true _) ..
          | cons y2 r2 =>
            dsimp only
            have hy2 : numB (y :: y2 :: r2).tail = (numF y2).isNone := rfl
            have hg2 : numG (y :: y2 :: r2).tail = (numF y2).getD 0 := rfl
            rw [hy, hy2, hg, hg2]
            cases h1 : numF y with
            | none => exact partsG_badE (by cases (numF y2).isNone <;> rfl) ..
            | some m =>
              cases h2 : numF y2 with
              | none => exact partsG_badE rfl ..
              | some k =>
                simp only [List.length_cons] at h
                exact ih _ _ _ _ _ (by show r2.length < n; omega)
      rw [if_neg e1, if_neg e1]
      by_cases e2 : x = wAbove
      · rw [if_pos e2, if_pos e2, hy, hg]
        cases a with
        | true => rw [if_pos rfl]; exact partsG_badE rfl ..
        | false =>
          rw [if_neg (by decide)]
          cases h1 : numF y with
          | none => exact partsG_badE rfl ..
          | some m => exact ih _ _ _ _ _ (by show r.length < n; omega)
      rw [if_neg e2, if_neg e2]
      by_cases e3 : x = wBelow
      · rw [if_pos e3, if_pos e3, hy, hg]
        cases b with
        | true => rw [if_pos rfl]; exact partsG_badE rfl ..
        | false =>
          rw [if_neg (by decide)]
          cases h1 : numF y with
          | none => exact partsG_badE rfl ..
          | some m => exact ih _ _ _ _ _ (by show r.length < n; omega)
      rw [if_neg e3, if_neg e3]
      rfl
theorem condG_O (w : List (List UInt8)) : outO (condG w) = condO w := by
  unfold condG
  match w with
  | [] => exact partsG_badE rfl ..
  | [_] => exact partsG_badE (by simp [headG, numB, numF]) ..
  | [_, _] => exact partsG_badE (by simp [headG, numB, numF]) ..
  | [_, _, _] => exact partsG_badE (by simp [headG, numB, numF]) ..
  | rk :: x :: kd :: y :: r =>
    have hb : (headG (rk :: x :: kd :: y :: r)).2 = ((((!(rk == wRank)) || (numF x).isNone) || false || (kindOf kd == 0)) || (numF y).isNone) := rfl
    have hc : (headG (rk :: x :: kd :: y :: r)).1 = ⟨(numF x).getD 0, kindOf kd, (numF y).getD 0, 0, 364, 0, 16777216⟩ := rfl
    rw [hb, hc]
    unfold condO
    dsimp only
    by_cases e1 : rk = wRank
    · rw [if_pos e1]
      cases h1 : numF x with
      | none => exact partsG_badE (by simp) ..
      | some m =>
        cases h2 : numF y with
        | none => exact partsG_badE (by simp) ..
        | some k =>
          dsimp only
          by_cases e2 : kindOf kd = 0
          · rw [if_pos e2]; exact partsG_badE (by simp [e2]) ..
          · rw [if_neg e2, show ((((!(rk == wRank)) || (some m).isNone) || false || (kindOf kd == 0)) || (some k).isNone) = false by simp [e1, e2]]
            exact partsG_O _ _ _ _ _ _ (by show r.length < _; simp only [List.length_cons]; omega)
    · rw [if_neg e1]; exact partsG_badE (by simp [e1]) ..
theorem condG_some {w : List (List UInt8)} {c : Cd} (h : condO w = some c) : condG w = (c, true) := by
  have := condG_O w
  rw [h] at this
  unfold outO at this
  split at this
  · rename_i h2
    injection this with h3
    exact Prod.ext h3 h2
  · cases this
theorem condG_none {w : List (List UInt8)} (h : condO w = none) : (condG w).2 = false := by
  have := condG_O w
  rw [h] at this
  unfold outO at this
  split at this
  · cases this
  · rename_i h2; simpa using h2
/-! ### the text of conditions, in lines and words -/
def joinW : List (List UInt8) → List UInt8
  | [] => []
  | x :: xs => x ++ xs.flatMap (32 :: ·)
theorem joinW_cons (x y : List UInt8) (r : List (List UInt8)) : joinW (x :: y :: r) = x ++ 32 :: joinW (y :: r) := by simp [joinW]
theorem words_joinW : ∀ {w : List (List UInt8)}, (∀ x ∈ w, WordOK isBl x) → wordsB isBl (joinW w) = w
  | [], _ => rfl
  | [x], h => by
    have : joinW [x] = x := by simp [joinW]
    rw [this]; exact words_one (h x (by simp))
  | x :: y :: r, h => by
    rw [joinW_cons, words_app isBl x 32 rfl, words_one (h x (by simp)), words_joinW (w := y :: r) (fun z hz => h z (by simp [hz]))]; rfl
theorem joinW_clean : ∀ {w : List (List UInt8)}, (∀ x ∈ w, WordOK isBl x) → ∀ b ∈ joinW w, b ≠ 10
  | [], _, b, hb => by simp [joinW] at hb
  | [x], h, b, hb => by
    have : joinW [x] = x := by simp [joinW]
    rw [this] at hb
    have := (h x (by simp)).2 b hb
    intro e; subst e; cases this
  | x :: y :: r, h, b, hb => by
    rw [joinW_cons, List.mem_append, List.mem_cons] at hb
    rcases hb with hb | rfl | hb
    · have := (h x (by simp)).2 b hb
      intro e; subst e; cases this
    · decide
    · exact joinW_clean (w := y :: r) (fun z hz => h z (by simp [hz])) b hb
theorem itoa_ok {n : Int} (h0 : 0 ≤ n) : WordOK isBl (Lib.itoa n) := by
  have he : Lib.itoa n = Lib.decDigits n.toNat := by unfold Lib.itoa; rw [if_neg (by omega)]
  refine ⟨fun e => ?_, fun b hb => ?_⟩
  · have := decDigits_ne n.toNat
    rw [← he, e] at this; simp at this
  · have := itoa_clean h0 b hb
    exact isBl_not (fun h => h.elim this.1 this.2)
theorem wordsOf_ok {c : Cd} (h : oneC c = 0) : ∀ x ∈ wordsOf c, WordOK isBl x := by
  obtain ⟨h1, h2, h3⟩ := oneC_ok h
  unfold badC at h3
  have hk : WordOK isBl (kindW c.k) := by
    have : c.k = 1 ∨ c.k = 2 ∨ c.k = 3 ∨ c.k = 4 := by omega
    rcases this with e | e | e | e <;> rw [e] <;> exact ⟨by decide, by decide⟩
  intro x hx
  unfold wordsOf at hx
  simp only [List.mem_append, List.mem_cons, List.not_mem_nil, or_false] at hx
  rcases hx with (rfl | rfl | rfl | rfl) | hx | hx | hx
  · exact ⟨by decide, by decide⟩
  · exact itoa_ok (by omega)
  · exact hk
  · exact itoa_ok (by omega)
  · unfold daysW at hx
    split at hx
    · simp at hx
    · simp only [List.mem_cons, List.not_mem_nil, or_false] at hx
      rcases hx with rfl | rfl | rfl
      · exact ⟨by decide, by decide⟩
      · exact itoa_ok (by omega)
      · exact itoa_ok (by omega)
  · unfold aboveW at hx
    split at hx
    · simp at hx
    · simp only [List.mem_cons, List.not_mem_nil, or_false] at hx
      rcases hx with rfl | rfl
      · exact ⟨by decide, by decide⟩
      · exact itoa_ok (by omega)
  · unfold belowW at hx
    split at hx
    · simp at hx
    · simp only [List.mem_cons, List.not_mem_nil, or_false] at hx
      rcases hx with rfl | rfl
      · exact ⟨by decide, by decide⟩
      · exact itoa_ok (by omega)
theorem lineT_join (c : Cd) : lineT c = joinW (wordsOf c) ++ [10] := by
  have h1 : daysT c = (daysW c).flatMap (32 :: ·) := by unfold daysT daysW; split <;> simp [putT]
  have h2 : aboveT c = (aboveW c).flatMap (32 :: ·) := by unfold aboveT aboveW; split <;> simp [putT]
  have h3 : belowT c = (belowW c).flatMap (32 :: ·) := by unfold belowT belowW; split <;> simp [putT]
  unfold lineT headT wordsOf
  rw [h1, h2, h3]
  simp [joinW, putT]
theorem linesW_line {c : Cd} (h : oneC c = 0) (rest : List UInt8) : linesW (lineT c ++ rest) = wordsOf c :: linesW rest := by
  have hok := wordsOf_ok h
  rw [lineT_join, List.append_assoc]
  unfold linesW
  rw [show [10] ++ rest = 10 :: rest from rfl, splitC_cut (joinW_clean hok), List.map_cons, words_joinW hok]
theorem linesW_print : ∀ {l : List Cd}, (∀ c ∈ l, oneC c = 0) → ∀ rest, linesW (printC l ++ rest) = l.map wordsOf ++ linesW rest
  | [], _, rest => rfl
  | c :: l, h, rest => by
    have ih := linesW_print (l := l) (fun x hx => h x (List.mem_cons_of_mem _ hx)) rest
    rw [show printC (c :: l) = lineT c ++ printC l from rfl, List.append_assoc, linesW_line (h c (List.mem_cons_self ..)), ih]; rfl
def numd : Int → List Cd → List (Int × List (List UInt8))
  | _, [] => []
  | i, c :: l => (i + 1, wordsOf c) :: numd (i + 1) l
theorem numd_len : ∀ (l : List Cd) (i : Int), (numd i l).length = l.length
  | [], _ => rfl
  | c :: l, i => by simp [numd, numd_len l]
theorem linL_numd : ∀ (l : List Cd) (i : Int) (W : List (List (List UInt8))), linL i (l.map wordsOf ++ W) = numd i l ++ linL (i + l.length) W
  | [], i, W => by simp [numd]
  | c :: l, i, W => by
    have ih := linL_numd l (i + 1) W
    have hc : cntd (wordsOf c) = true := rfl
    rw [List.map_cons, List.cons_append]
    show (if cntd (wordsOf c) = true then (i + 1, wordsOf c) :: linL (i + 1) (l.map wordsOf ++ W) else linL (i + 1) (l.map wordsOf ++ W)) = _
    rw [if_pos hc, ih, List.length_cons, show i + 1 + (l.length : Int) = i + ((l.length + 1 : Nat) : Int) by omega]
    rfl
theorem parG_numd : ∀ {l : List Cd}, (∀ c ∈ l, oneC c = 0) → ∀ (i : Int) (R : List (Int × List (List UInt8))) (out : List Cd), parG (numd i l ++ R) out = parG R (out ++ l)
  | [], _, i, R, out => by simp [numd]
  | c :: l, h, i, R, out => by
    have ih := parG_numd (l := l) (fun x hx => h x (List.mem_cons_of_mem _ hx)) (i + 1) R (out ++ [c])
    have hc := h c (List.mem_cons_self ..)
    have hg := condG_some (cond_back hc)
    show (if (condG (wordsOf c)).2 = false then ([], i + 1, 7) else if oneC (condG (wordsOf c)).1 ≠ 0 then ([], i + 1, oneC (condG (wordsOf c)).1) else parG (numd (i + 1) l ++ R) (out ++ [(condG (wordsOf c)).1])) = _
    rw [hg]
    dsimp only
    rw [if_neg (by decide), if_neg (fun e => e hc), ih, List.append_assoc]
    rfl
theorem linesW_nil : linesW [] = [[]] := rfl
theorem parse_print {l : List Cd} (h : limC l = 0) : parseG (printC l) = (l, 0, 0) := by
  obtain ⟨hl, hV⟩ := limC_ok h
  have hlen := printC_len hV
  have hL : linL 0 (linesW (printC l)) = numd 0 l := by
    have := linesW_print hV []
    rw [List.append_nil, linesW_nil] at this
    rw [this, linL_numd]
    show numd 0 l ++ [] = _
    rw [List.append_nil]
  unfold parseG
  rw [if_neg (by omega), hL, numd_len, if_neg (by omega)]
  have := parG_numd hV 0 [] []
  rw [List.append_nil, List.nil_append] at this
  rw [this]; rfl
theorem parG_ok : ∀ {L : List (Int × List (List UInt8))} {out a : List Cd} {n : Int}, parG L out = (a, n, 0) → (∀ c ∈ out, oneC c = 0) → n = 0 ∧ (∀ c ∈ a, oneC c = 0) ∧ a.length ≤ out.length + L.length
  | [], out, a, n, h, ho => by
    simp only [parG, Prod.mk.injEq] at h
    obtain ⟨rfl, rfl, _⟩ := h
    exact ⟨rfl, ho, Nat.le_refl _⟩
  | x :: L, out, a, n, h, ho => by
    unfold parG at h
    split at h
    · simp at h
    · split at h
      · rename_i h2
        simp only [Prod.mk.injEq] at h
        exact absurd h.2.2 h2
      · rename_i h2
        obtain ⟨g1, g2, g3⟩ := parG_ok h fun c hc => by
          rcases List.mem_append.1 hc with hc | hc
          · exact ho c hc
          · rw [List.mem_singleton] at hc; subst hc; exact Classical.not_not.1 h2
        refine ⟨g1, g2, ?_⟩
        rw [List.length_append] at g3
        simp only [List.length_cons, List.length_nil] at g3 ⊢
        omega
theorem allC_of : ∀ {l : List Cd}, (∀ c ∈ l, oneC c = 0) → allC l = 0
  | [], _ => rfl
  | c :: l, h => by
    unfold allC
    rw [if_neg (fun e => e (h c (List.mem_cons_self ..)))]
    exact allC_of fun x hx => h x (List.mem_cons_of_mem _ hx)
theorem limC_of {l : List Cd} (hl : l.length ≤ 200) (h : ∀ c ∈ l, oneC c = 0) : limC l = 0 := by
  unfold limC
  rw [if_neg (by omega), allC_of h]
theorem parse_ok {s : List UInt8} (h : (parseG s).2.2 = 0) : limC (parseG s).1 = 0 ∧ (parseG s).2.1 = 0 := by
  have hp : parseG s = ((parseG s).1, (parseG s).2.1, 0) := Prod.ext rfl (Prod.ext rfl h)
  generalize (parseG s).1 = a at hp ⊢
  generalize (parseG s).2.1 = n at hp ⊢
  unfold parseG at hp
  split at hp
  · simp at hp
  · split at hp
    · simp at hp
    · obtain ⟨g1, g2, g3⟩ := parG_ok hp (by simp)
      simp only [List.length_nil] at g3
      exact ⟨limC_of (by omega) g2, g1⟩
theorem made_one {c : Cd} (h : CondOK c) : oneC c = 0 := by
  obtain ⟨h1, h2, h3, h4, h5, h6, h7, h8⟩ := h
  unfold oneC
  rw [if_neg (by omega), if_neg (by omega), if_neg (by unfold badC; omega)]
theorem made_ok (d : Dk) : limC (condsF d).1 = 0 ∧ (∀ c ∈ (condsF d).1, oneC c = 0) ∧ (condsF d).1.length ≤ 6 := by
  obtain ⟨h1, h2, _⟩ := condsF_ok d
  have h3 : ∀ c ∈ (condsF d).1, oneC c = 0 := fun c hc => by
    obtain ⟨i, hi, rfl⟩ := List.getElem_of_mem hc
    have := h2 i hi
    rw [show (condsF d).1.getD i default = (condsF d).1[i] by simp [List.getD, hi]] at this
    exact made_one this
  exact ⟨limC_of (by omega) h3, h3, h1⟩
end Pv
end Go.Proofs.YtknidebojogodaaGreatDoor
