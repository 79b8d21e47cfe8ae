/- LAW FloodtableJoins: the row and its card: the law returns true for every input, and the input reads as before; the listed tables read as the program's text lays them. -/
import Derived.Test.YtcfcmafmdpbjoaaDoorZcg
import Derived.Shelf.Spec.SlicesGrow
import Derived.Test.YtcfcmafmdpbjoaaDoorZch
import Derived.Test.YtcfcmafmdpbjoaaDoorTie
import Derived.WalkKit
import Derived.ProofKit
import Derived.OpenShut
import Derived.ShutString
import Derived.ChangeOld
import Derived.Below
import Derived.LaidMore
import Derived.Lay
import Derived.LaidSub
import Derived.SevenTiedAt
import Derived.Shelf.Vars
import Derived.MakeChecks
import Derived.Test.YtcfcmafmdpbjoaaDoorCards
/- LAW 24: the library's slices.Grow at a nil slice of numbers, as a pure call. -/
set_option linter.unusedSimpArgs false
set_option linter.unusedVariables false
namespace Go.Proofs.YtcfcmafmdpbjoaaDoor
namespace Sh
open Go.Shelf
def grow_ren : Go.Shelf.Ren := ⟨fun | 4 => 66 | n => n, fun | 25 => 3 | n => n, fun n => n⟩
theorem growL : Go.Proofs.Lays8.n4 Tryd.prog grow_ren := {
  mixed := by kernel_rfl
  f4 := ⟨ "slices.Grow[[]int,int]", by decide, Tryd.func66.trans (congrArg some (by kernel_rfl))⟩
  t0 := Tryd.underlying0
  a0 := Tryd.isAgg0
  z0 := Tryd.sizeOf0
  v0 := Tryd.zeroValue0
  t3 := Tryd.underlying3
  a3 := Tryd.isAgg3
  z3 := Tryd.sizeOf3
  v3 := Tryd.zeroValue3
  t4 := Tryd.underlying4
  a4 := Tryd.isAgg4
  z4 := Tryd.sizeOf4
  v4 := Tryd.zeroValue4
  t9 := Tryd.underlying9
  a9 := Tryd.isAgg9
  z9 := Tryd.sizeOf9
  v9 := Tryd.zeroValue9
  t20 := Tryd.underlying20
  a20 := Tryd.isAgg20
  z20 := Tryd.sizeOf20
  v20 := Tryd.zeroValue20
  t22 := Tryd.underlying22
  a22 := Tryd.isAgg22
  z22 := Tryd.sizeOf22
  v22 := Tryd.zeroValue22 }
end Sh
namespace Pv
open Go.RowKit
theorem args_nilint (n : Int) (X : Cx) (γ : Gh) (w : World) (vals : List Value) (h : RepL X γ w [.nil 1, .int .i64 n] vals) : vals = [.slice none 0 0, .int .i64 n] := by
  obtain ⟨v, us, rfl, hv, hus⟩ := h.cons_inv
  obtain ⟨u, us, rfl, hu, hus⟩ := hus.cons_inv
  rw [hv.nil_inv, hu.int_inv, hus.nil_inv]
theorem call66 (n : Nat) (hn : n * 8 ≤ 140737488355328) : PureCall Tryd.prog 66 [.nil 1, .int .i64 n] [] ⟨.os 1000000000, [], [.row 0 3 1 0 (fun _ => [])]⟩ := by
  refine pure_new2 (vs := []) ⟨_, Tryd.func66, rfl, rfl⟩ (args_nilint n) (fun X γ w => ⟨rfl, fun u hu => (by cases hu), fun i hi => absurd hi (Nat.not_lt_zero _), fun i hi => absurd hi (Nat.not_lt_zero _), fun i j c u hi => absurd hi (Nat.not_lt_zero _)⟩) fun w hg => ?_
  by_cases h0 : n = 0
  · subst h0
    refine (Any8.slices_Grow_room Sh.growL none 0 0 0 w (Nat.le_refl _) (by decide) (by decide) (Nat.le_refl _)).mono ?_
    rintro ev w' ⟨he, rfl⟩
    exact ⟨_, he, ⟨rfl, .inl ⟨rfl, rfl⟩⟩, Keeps.refl _ _⟩
  · obtain ⟨i0, hi0, hz0, hs0, hb0⟩ : ∃ i0, Tryd.prog.info? 3 = some i0 ∧ i0.zero = some (.int .i64 0) ∧ i0.size = 1 ∧ i0.bytes = 8 := by
      have h : (Tryd.prog.info? 3).map (fun i => (i.zero, i.size, i.bytes)) = some (some (.int .i64 0), 1, 8) := by kernel_rfl
      obtain ⟨i0, h1, h2⟩ := Option.map_eq_some_iff.1 h
      simp only [Prod.mk.injEq] at h2
      exact ⟨i0, h1, h2.1, h2.2.1, h2.2.2⟩
    refine (Any8.slices_Grow_grow Sh.growL i0 (.int .i64 0) hi0 hz0 (by omega) none 0 0 n [] w (Nat.le_refl _) (by omega) (by rw [hb0]; omega) (by omega) (by simp) (fun _ => rfl) (fun a ha => by cases ha)).mono ?_
    rintro ev w' ⟨he, hw⟩
    have e3 : Sh.grow_ren.t 25 = 3 := rfl
    rw [e3] at he hw
    have g1 := grownCap_ge w (0 + n) 0 3
    have g2 := grownCap_le_maxLen w (0 + n) 0 3 (by unfold maxLen; omega)
    generalize grownCap w (0 + n) 0 3 = c at he hw g1 g2
    have hsz : ((#[] : Array Value) ++ Builtin.zeroCells (Value.int IntKind.i64 0).cells (0 + n - 0) ++ Builtin.zeroCells (Value.int IntKind.i64 0).cells (c - (0 + n))).size = c * 1 := by
      rw [Array.size_append, Array.size_append, size_zeroCells, size_zeroCells]
      show 0 + (0 + n - 0) * 1 + (c - (0 + n)) * 1 = c * 1
      omega
    generalize (#[] : Array Value) ++ Builtin.zeroCells (Value.int IntKind.i64 0).cells (0 + n - 0) ++ Builtin.zeroCells (Value.int IntKind.i64 0).cells (c - (0 + n)) = cur at hw hsz
    have hnew : w'.heap[w.heap.size]? = some (.cells cur 3 (0, 0)) := by
      rw [hw]
      show (w.heap.push _)[w.heap.size]? = _
      simp
    refine ⟨_, he, ⟨rfl, .inr ⟨w.heap.size, c, cur, rfl, Nat.le_refl _, hnew, Nat.zero_le _, g2, hsz, by simp⟩⟩, ?_⟩
    rw [hw]
    exact (Keeps.drew _ w).trans (Keeps.alloc _ _ _)
end Pv
end Go.Proofs.YtcfcmafmdpbjoaaDoor

/- THE LIBRARY's slices.Compact AT NUMBERS, as a call that writes into a slice of the caller's own. -/
set_option linter.unusedSimpArgs false
set_option linter.unusedVariables false
namespace Go.Proofs.YtcfcmafmdpbjoaaDoor
namespace Pv
open Go.Sort Go.RowKit
theorem compact_inplace (l : List Int) (hb : l.length ≤ 9223372036854775807) : InPlace Tryd.prog 57 l (Lib.compact l) true := by
  refine ⟨⟨_, Tryd.func57, rfl, rfl⟩, fun w g cap T h => ?_⟩
  obtain ⟨h1, h2⟩ := ints_holds h
  have hcap : l.length ≤ cap := by obtain ⟨_, _, h, _⟩ := h; exact h
  refine (Sh.slices_Compact_int g 0 cap l w h1 hb hcap).mono ?_
  rintro e w' ⟨he, n, rfl⟩
  have hle : (Lib.compact l).length ≤ l.length := by
    unfold Lib.compact Lib.compactUpTo
    rw [List.length_map]
    exact Nat.le_trans (List.length_filter_le ..) (by simp)
  obtain ⟨k1, k2⟩ := ints_put (n := n) (os := #[]) (d := Lib.compact l ++ List.replicate (l.length - (Lib.compact l).length) 0) (l' := Lib.compact l) h (by simp; omega) (by simp)
  rw [grow_empty] at k1 k2
  exact ⟨by rw [he]; rfl, k1, k2⟩

end Pv
end Go.Proofs.YtcfcmafmdpbjoaaDoor

/- LAW 24, THE WALKS: the numbers of two lists, each once. -/
set_option linter.unusedSimpArgs false
set_option linter.unusedVariables false
namespace Go.Proofs.YtcfcmafmdpbjoaaDoor
namespace Pv
def c55L1 : C := (.seq (.reg [⟨(some 12), 192, none, .bi false .lss (.t 11) (.t 10)⟩])
  (.seq (.cond (.t 12) .skip (.exit 0))
  (.seq (.block 1 (.seq (.reg [⟨(some 13), 208, none, .ia 1 (.t 9) (.t 11)⟩,
    ⟨(some 14), 224, none, .ld 1 false (.t 13)⟩,
    ⟨(some 5), 80, none, .mv (.t 14)⟩])
  (.seq (.reg [⟨(some 15), 240, none, .mv (.t 3)⟩,
    ⟨(some 16), 256, none, .mv (.t 5)⟩,
    ⟨(some 17), 272, none, .len (.t 16)⟩,
    ⟨(some 18), 288, none, .bi false .add (.t 15) (.t 17)⟩,
    ⟨(some 3), 48, none, .mv (.t 18)⟩])
  (.seq (.reg [⟨(some 19), 304, none, .mv (.t 3)⟩,
    ⟨(some 20), 320, none, .bi false .lss (.t 19) (.c (.int .i64 0))⟩])
  (.cond (.t 20) .bad .skip)))))
  (.reg [⟨(some 22), 352, none, .bi false .add (.t 11) (.c (.int .i64 1))⟩,
    ⟨(some 11), 176, none, .mv (.t 22)⟩]))))
def c55L2 : C := (.seq (.reg [⟨(some 28), 448, none, .bi false .lss (.t 27) (.t 26)⟩])
  (.seq (.cond (.t 28) .skip (.exit 2))
  (.seq (.block 3 (.seq (.reg [⟨(some 29), 464, none, .ia 1 (.t 25) (.t 27)⟩,
    ⟨(some 30), 480, none, .ld 1 false (.t 29)⟩,
    ⟨(some 8), 128, none, .mv (.t 30)⟩])
  (.reg [⟨(some 31), 496, none, .mv (.t 6)⟩,
    ⟨(some 32), 512, none, .mv (.t 8)⟩,
    ⟨(some 33), 528, none, .app 3 1 8 (.t 31) (.t 32)⟩,
    ⟨(some 6), 96, none, .mv (.t 33)⟩])))
  (.reg [⟨(some 34), 544, none, .bi false .add (.t 27) (.c (.int .i64 1))⟩,
    ⟨(some 27), 432, none, .mv (.t 34)⟩]))))
def c55 : C := (.seq (.reg [⟨(some 2), 32, none, .mv (.c (.nil 1))⟩])
  (.seq (.reg [⟨(some 3), 48, none, .mv (.c (.int .i64 0))⟩])
  (.seq (.seq (.reg [⟨(some 9), 144, none, .mv (.t 0)⟩,
    ⟨(some 10), 160, none, .len (.t 9)⟩,
    ⟨(some 11), 176, none, .mv (.c (.int .i64 0))⟩])
  (.block 0 (.loop c55L1)))
  (.seq (.reg [⟨(some 23), 368, none, .mv (.t 3)⟩,
    ⟨(some 24), 384, none, .call (.c (.fn (.func 66) [] [])) [(.c (.nil 1)), (.t 23)]⟩,
    ⟨(some 6), 96, none, .mv (.t 24)⟩])
  (.seq (.seq (.reg [⟨(some 25), 400, none, .mv (.t 0)⟩,
    ⟨(some 26), 416, none, .len (.t 25)⟩,
    ⟨(some 27), 432, none, .mv (.c (.int .i64 0))⟩])
  (.block 2 (.loop c55L2)))
  (.seq (.cut (.reg [⟨(some 35), 560, none, .mv (.t 6)⟩,
    ⟨(some 2), 32, none, .mv (.t 35)⟩]))
  .ret))))))
theorem fits55 : fits Tryd.prog false Tryd.f55 1 36 [(2, none)] = some c55.er := by kernel_rfl
def c45 : C := (.seq (.reg [⟨(some 4), 64, none, .mv (.c (.nil 1))⟩])
  (.seq (.reg [⟨(some 6), 96, none, .mv (.t 0)⟩,
    ⟨(some 7), 112, none, .mv (.t 1)⟩,
    ⟨(some 8), 128, none, .bs 22 1 [(.t 6), (.t 7)]⟩,
    ⟨(some 9), 144, none, .call (.c (.fn (.func 55) [] [])) [(.t 8)]⟩,
    ⟨(some 5), 80, none, .mv (.t 9)⟩])
  (.seq (.cut (.reg [⟨(some 10), 160, none, .mv (.t 5)⟩,
    ⟨(some 11), 176, none, .call (.c (.fn (.func 56) [] [])) [(.t 10)]⟩]))
  (.seq (.cut (.reg [⟨(some 12), 192, none, .mv (.t 5)⟩,
    ⟨(some 13), 208, none, .call (.c (.fn (.func 57) [] [])) [(.t 12)]⟩,
    ⟨(some 4), 64, none, .mv (.t 13)⟩]))
  .ret))))
theorem fits45 : fits Tryd.prog false Tryd.f45 2 14 [(4, none)] = some c45.er := by kernel_rfl

def twoR (l m : List Int) : Nat → List PV := fun i => [[PV.sl 2 1 l.length (fl eInt l)], [.sl 2 1 m.length (fl eInt m)]].getD i []
def szN (l m : List Int) : Nat → Nat
  | 0 => 0
  | 1 => l.length
  | _ => l.length + m.length
def accN (l m : List Int) : Nat → List Int
  | 0 => []
  | 1 => l
  | _ => l ++ m

set_option maxRecDepth 100000 in
set_option maxHeartbeats 8000000 in
theorem call55 (l m : List Int) (hl : l.length ≤ 1000000) (hm : m.length ≤ 1000000) : PureCall Tryd.prog 55 [.sl 2 1 2 (twoR l m)] [] ⟨.os 1000000000, [], [.row 0 3 1 (l ++ m).length (fl eInt (l ++ m))]⟩ := by
  refine pure_call mix Tryd.func55 fits55 rfl ?_
  conv => whnf
  refine ⟨trivial, ?_⟩
  refine LSem.loop (n := 36) mix (α := Nat) (fun i => i ≤ 2)
    (fun i => [(0, .sl 2 1 2 (twoR l m)), (3, .int .i64 (szN l m i)), (9, .sl 2 1 2 (twoR l m)), (10, .int .i64 2), (11, .int .i64 i)])
    (fun i => []) (fun i => 2 - i) 0 ?_ ?_ ?_
  · exact Nat.zero_le _
  · refine ⟨rfl, rfl, ?_, ?_⟩
    all_goals repeat' (first | exact True.intro | refine leF_cons rfl ?_ ?_ | refine leS_cons rfl ?_ ?_ | (show PLe _ _ _ _; conv => whnf) | (show SLe _ _ _ _; conv => whnf) | (show PLeL _ _ _ _; conv => whnf) | apply And.intro | rfl | exact Nat.le_refl _ | exact fun _ _ => rfl | exact rowEq0 _ _)
    all_goals skip
  · intro i hi
    have h012 : i = 0 ∨ i = 1 ∨ i = 2 := by omega
    rcases h012 with rfl | rfl | rfl
    · conv => whnf
      refine ⟨trivial, fun _ => ?_, fun hc => absurd hc (by decide)⟩
      conv => whnf
      refine ⟨?_, fun hc => ?_, fun hc => ?_⟩
      · (try conv => whnf)
        (repeat' (first | exact True.intro | refine inR64_of ?_ ?_ | apply And.intro | refine maxLen_ge ?_))
        all_goals (try simp only [szN])
        all_goals first | omega | skip
      · have h : decide ((0 : Int) + (l.length : Int) < 0) = true := hc
        have h2 := of_decide_eq_true h
        omega
      · conv => whnf
        refine ⟨?_, 1, by omega, ?_, rfl, rfl, ?_, ?_⟩
        · (try conv => whnf)
          (repeat' (first | exact True.intro | refine inR64_of ?_ ?_ | apply And.intro | refine maxLen_ge ?_))
          all_goals (try simp only [szN])
          all_goals first | omega | skip
        · omega
        all_goals repeat' (first | exact True.intro | refine leF_cons rfl ?_ ?_ | refine leS_cons rfl ?_ ?_ | (show PLe _ _ _ _; conv => whnf) | (show SLe _ _ _ _; conv => whnf) | (show PLeL _ _ _ _; conv => whnf) | apply And.intro | rfl | exact Nat.le_refl _ | exact fun _ _ => rfl | exact rowEq0 _ _)
        all_goals first | (show ((0 : Nat) : Int) + (l.length : Int) = (l.length : Int); omega) | skip
    · conv => whnf
      refine ⟨trivial, fun _ => ?_, fun hc => absurd hc (by decide)⟩
      conv => whnf
      refine ⟨?_, fun hc => ?_, fun hc => ?_⟩
      · (try conv => whnf)
        (repeat' (first | exact True.intro | refine inR64_of ?_ ?_ | apply And.intro | refine maxLen_ge ?_))
        all_goals (try simp only [szN])
        all_goals first | omega | skip
      · have h : decide ((l.length : Int) + (m.length : Int) < 0) = true := hc
        have h2 := of_decide_eq_true h
        omega
      · conv => whnf
        refine ⟨?_, 2, by omega, ?_, rfl, rfl, ?_, ?_⟩
        · (try conv => whnf)
          (repeat' (first | exact True.intro | refine inR64_of ?_ ?_ | apply And.intro | refine maxLen_ge ?_))
          all_goals (try simp only [szN])
          all_goals first | omega | skip
        · omega
        all_goals repeat' (first | exact True.intro | refine leF_cons rfl ?_ ?_ | refine leS_cons rfl ?_ ?_ | (show PLe _ _ _ _; conv => whnf) | (show SLe _ _ _ _; conv => whnf) | (show PLeL _ _ _ _; conv => whnf) | apply And.intro | rfl | exact Nat.le_refl _ | exact fun _ _ => rfl | exact rowEq0 _ _)
        all_goals first | (show _ = ((l.length + m.length : Nat) : Int); omega) | skip
    · conv => whnf
      refine ⟨trivial, fun hc => absurd hc (by decide), fun _ => ?_⟩
      conv => whnf
      refine ⟨_, fun _ => call66 (l.length + m.length) (by omega), ?_⟩
      conv => whnf
      refine ⟨?_, ?_⟩
      · (try conv => whnf)
        (repeat' (first | exact True.intro | exact fun _ h => h | refine inR64_of ?_ ?_ | apply And.intro | refine maxLen_ge ?_)) <;> (first | omega | (dsimp only; omega) | (dsimp only [List.length_cons, List.length_nil]; omega) | (intro hg; rw [hg]; rfl) | (intro hg hh; rw [hg, hh]; rfl) | (intro hg; simp [-List.getD_eq_getElem?_getD, -Int.default_eq_zero] at hg; first | omega | (refine inR64_of ?_ ?_ <;> omega) | (constructor <;> omega)) | (simp [-List.getD_eq_getElem?_getD, -Int.default_eq_zero]; done))
      refine LSem.loop (n := 36) mix (α := Nat) (fun i => i ≤ 2)
        (fun i => [(6, .os 384), (25, .sl 2 1 2 (twoR l m)), (26, .int .i64 2), (27, .int .i64 i)])
        (fun i => [(384, .row 2 3 1 (accN l m i).length (fl eInt (accN l m i)))]) (fun i => 2 - i) 0 ?_ ?_ ?_
      · exact Nat.zero_le _
      · refine ⟨rfl, rfl, ?_, ?_⟩
        all_goals repeat' (first | exact True.intro | refine leF_cons rfl ?_ ?_ | refine leS_cons rfl ?_ ?_ | (show PLe _ _ _ _; conv => whnf) | (show SLe _ _ _ _; conv => whnf) | (show PLeL _ _ _ _; conv => whnf) | apply And.intro | rfl | exact Nat.le_refl _ | exact fun _ _ => rfl | exact rowEq0 _ _)
        all_goals first | exact Nat.zero_le _ | skip
      · intro i hi
        have h012 : i = 0 ∨ i = 1 ∨ i = 2 := by omega
        rcases h012 with rfl | rfl | rfl
        · conv => whnf
          refine ⟨trivial, fun _ => ?_, fun hc => absurd hc (by decide)⟩
          conv => whnf
          refine ⟨?_, 1, by omega, ?_, rfl, rfl, ?_, ?_⟩
          · (try conv => whnf)
            (repeat' (first | exact True.intro | refine inR64_of ?_ ?_ | apply And.intro | refine maxLen_ge ?_))
            all_goals (try simp only [accN, List.length_nil])
            all_goals first | omega | skip
          · omega
          all_goals repeat' (first | exact True.intro | refine leF_cons rfl ?_ ?_ | refine leS_cons rfl ?_ ?_ | (show PLe _ _ _ _; conv => whnf) | (show SLe _ _ _ _; conv => whnf) | (show PLeL _ _ _ _; conv => whnf) | apply And.intro | rfl | exact Nat.le_refl _ | exact fun _ _ => rfl | exact rowEq0 _ _)
          all_goals first | exact fl_append eInt [] l | (simp [accN]; done) | omega | skip
        · conv => whnf
          refine ⟨trivial, fun _ => ?_, fun hc => absurd hc (by decide)⟩
          conv => whnf
          refine ⟨?_, 2, by omega, ?_, rfl, rfl, ?_, ?_⟩
          · (try conv => whnf)
            (repeat' (first | exact True.intro | refine inR64_of ?_ ?_ | apply And.intro | refine maxLen_ge ?_))
            all_goals (try simp only [accN])
            all_goals first | omega | skip
          · omega
          all_goals repeat' (first | exact True.intro | refine leF_cons rfl ?_ ?_ | refine leS_cons rfl ?_ ?_ | (show PLe _ _ _ _; conv => whnf) | (show SLe _ _ _ _; conv => whnf) | (show PLeL _ _ _ _; conv => whnf) | apply And.intro | rfl | exact Nat.le_refl _ | exact fun _ _ => rfl | exact rowEq0 _ _)
          all_goals first | exact fl_append eInt l m | (simp [accN]; done) | omega | skip
        · conv => whnf
          refine ⟨trivial, fun hc => absurd hc (by decide), fun _ => ?_⟩
          conv => whnf
          refine ⟨trivial, ?_⟩
          refine LSem.untag 384 2 3 _ (l ++ m) rfl (fun _ _ => rfl) ?_
          refine LSem.of_vc mix ?_
          conv => whnf
          refine ⟨trivial, [384], ?_⟩
          conv => whnf
          refine ⟨rfl, ?_, trivial, ?_⟩
          all_goals repeat' (first | exact True.intro | refine leF_cons rfl ?_ ?_ | refine leS_cons rfl ?_ ?_ | (show PLe _ _ _ _; conv => whnf) | (show SLe _ _ _ _; conv => whnf) | (show PLeL _ _ _ _; conv => whnf) | apply And.intro | rfl | exact Nat.le_refl _ | exact fun _ _ => rfl | exact rowEq0 _ _)

def srt (l : List Int) : List Int := l.mergeSort fun x y => decide (x ≤ y)
theorem srt_len (l : List Int) : (srt l).length = l.length := List.length_mergeSort ..
def bothF (l m : List Int) : List Int := Lib.compact (srt (l ++ m))

set_option maxRecDepth 100000 in
set_option maxHeartbeats 8000000 in
theorem call45 (l m : List Int) (hl : l.length ≤ 1000000) (hm : m.length ≤ 1000000) (h0 : 0 < l.length) : PureCall Tryd.prog 45 [.sl 2 1 l.length (fl eInt l), .sl 2 1 m.length (fl eInt m)] [] ⟨.sl 0 1 (bothF l m).length (fl eInt (bothF l m)), [], []⟩ := by
  have hlen : (l ++ m).length = l.length + m.length := List.length_append
  refine pure_call mix Tryd.func45 fits45 rfl ?_
  conv => whnf
  refine ⟨_, fun _ => call55 l m hl hm, ?_⟩
  conv => whnf
  refine ⟨⟨trivial, trivial⟩, LSem.inplace (sort_inplace (l ++ m) (by omega)) (by omega) (fun _ => List.length_mergeSort ..) rfl rfl (fun _ _ => rfl) rfl rfl ?_⟩
  conv => whnf
  refine ⟨trivial, LSem.inplace (compact_inplace (srt (l ++ m)) (by rw [srt_len]; omega)) (by rw [srt_len]; omega) (fun h => by cases h) rfl rfl (fun _ _ => rfl) rfl rfl ?_⟩
  conv => whnf
  refine ⟨?_, [], ?_⟩
  · (try conv => whnf)
    (repeat' (first | exact True.intro | exact fun _ h => h | refine inR64_of ?_ ?_ | apply And.intro | refine maxLen_ge ?_)) <;> (first | omega | (dsimp only; omega) | (dsimp only [List.length_cons, List.length_nil]; omega) | (intro hg; rw [hg]; rfl) | (intro hg hh; rw [hg, hh]; rfl) | (intro hg; simp [-List.getD_eq_getElem?_getD, -Int.default_eq_zero] at hg; first | omega | (refine inR64_of ?_ ?_ <;> omega) | (constructor <;> omega)) | (simp [-List.getD_eq_getElem?_getD, -Int.default_eq_zero]; done))
  conv => whnf
  refine ⟨rfl, ?_, trivial, trivial⟩
  all_goals repeat' (first | exact True.intro | refine leF_cons rfl ?_ ?_ | refine leS_cons rfl ?_ ?_ | (show PLe _ _ _ _; conv => whnf) | (show SLe _ _ _ _; conv => whnf) | (show PLeL _ _ _ _; conv => whnf) | apply And.intro | rfl | exact Nat.le_refl _ | exact fun _ _ => rfl | exact rowEq0 _ _)
end Pv
end Go.Proofs.YtcfcmafmdpbjoaaDoor

/- LAW 24, THE WALKS: the table of two tables. -/
set_option linter.unusedSimpArgs false
set_option linter.unusedVariables false
namespace Go.Proofs.YtcfcmafmdpbjoaaDoor
namespace Pv
def c24L2 : C := (.seq (.reg [⟨(some 59), 944, none, .bi false .lss (.t 58) (.t 57)⟩])
  (.seq (.cond (.t 59) .skip (.exit 2))
  (.seq (.block 3 (.seq (.reg [⟨(some 60), 960, none, .ia 1 (.t 56) (.t 58)⟩,
    ⟨(some 61), 976, none, .ld 1 false (.t 60)⟩,
    ⟨(some 13), 208, none, .mv (.t 61)⟩])
  (.drw [⟨(some 62), 992, none, .mv (.t 11)⟩,
    ⟨(some 63), 1008, none, .ld 3 true (.t 2)⟩,
    ⟨(some 64), 1024, none, .mv (.t 10)⟩,
    ⟨(some 65), 1040, none, .mv (.t 13)⟩,
    ⟨(some 66), 1056, none, .call (.c (.fn (.func 39) [] [])) [(.t 63), (.t 64), (.t 65)]⟩,
    ⟨(some 67), 1072, none, .ld 3 true (.t 3)⟩,
    ⟨(some 68), 1088, none, .mv (.t 10)⟩,
    ⟨(some 69), 1104, none, .mv (.t 13)⟩,
    ⟨(some 70), 1120, none, .call (.c (.fn (.func 39) [] [])) [(.t 67), (.t 68), (.t 69)]⟩,
    ⟨(some 71), 1136, none, .mx [(.t 66), (.t 70)]⟩,
    ⟨(some 72), 1152, none, .bs 3 1 [(.t 71)]⟩,
    ⟨(some 73), 1168, none, .app 3 1 8 (.t 62) (.t 72)⟩,
    ⟨(some 11), 176, none, .mv (.t 73)⟩]
    [(0, 1, 62), (0, 2, 62), (0, 3, 62), (0, 4, 62), (0, 5, 62), (0, 6, 62), (0, 7, 62), (0, 8, 62), (0, 9, 62), (0, 10, 62), (1, 2, 63), (1, 3, 63), (1, 5, 63), (1, 6, 63), (1, 7, 63), (2, 3, 64), (2, 5, 64), (2, 6, 64), (2, 7, 64), (3, 5, 65), (3, 6, 65), (3, 7, 65), (4, 5, 66), (4, 6, 66), (4, 7, 66), (5, 6, 67), (5, 7, 67), (6, 7, 68)])))
  (.reg [⟨(some 74), 1184, none, .bi false .add (.t 58) (.c (.int .i64 1))⟩,
    ⟨(some 58), 928, none, .mv (.t 74)⟩]))))
def c24L1 : C := (.seq (.reg [⟨(some 52), 832, none, .bi false .lss (.t 51) (.t 50)⟩])
  (.seq (.cond (.t 52) .skip (.exit 0))
  (.seq (.block 1 (.seq (.reg [⟨(some 53), 848, none, .ia 1 (.t 49) (.t 51)⟩,
    ⟨(some 54), 864, none, .ld 1 false (.t 53)⟩,
    ⟨(some 10), 160, none, .mv (.t 54)⟩])
  (.seq (.reg [⟨(some 11), 176, none, .mv (.c (.nil 1))⟩])
  (.seq (.seq (.reg [⟨(some 55), 880, none, .fa 1 (.t 8)⟩,
    ⟨(some 56), 896, none, .ld 1 false (.t 55)⟩,
    ⟨(some 57), 912, none, .len (.t 56)⟩,
    ⟨(some 58), 928, none, .mv (.c (.int .i64 0))⟩])
  (.block 2 (.loop c24L2)))
  (.reg [⟨(some 75), 1200, none, .fa 2 (.t 8)⟩,
    ⟨(some 76), 1216, none, .ld 1 false (.t 75)⟩,
    ⟨(some 77), 1232, none, .mv (.t 11)⟩,
    ⟨(some 78), 1248, none, .bs 22 1 [(.t 77)]⟩,
    ⟨(some 79), 1264, none, .app 22 1 24 (.t 76) (.t 78)⟩,
    ⟨(some 80), 1280, none, .fa 2 (.t 8)⟩,
    ⟨none, 0, none, .st 1 (.t 80) (.t 79)⟩])))))
  (.reg [⟨(some 81), 1296, none, .bi false .add (.t 51) (.c (.int .i64 1))⟩,
    ⟨(some 51), 816, none, .mv (.t 81)⟩]))))
def c24 : C := (.seq (.reg [⟨(some 2), 32, none, .bx 3 (.t 0)⟩,
    ⟨(some 3), 48, none, .bx 3 (.t 1)⟩,
    ⟨(some 4), 64, none, .al [(.nil 1), (.nil 1), (.nil 1)]⟩,
    ⟨(some 5), 80, none, .mv (.c (.int .i64 0))⟩])
  (.seq (.seq (.reg [⟨(some 14), 224, none, .ld 3 true (.t 2)⟩,
    ⟨(some 15), 240, none, .call (.c (.fn (.func 22) [] [])) [(.t 14)]⟩,
    ⟨(some 6), 96, none, .mv (.t 15)⟩])
  (.seq (.reg [⟨(some 16), 256, none, .mv (.t 6)⟩,
    ⟨(some 17), 272, none, .bi false .neq (.t 16) (.c (.int .i64 0))⟩])
  (.cond (.t 17) (.seq (.reg [⟨(some 18), 288, none, .bd [(.nil 1), (.nil 1), (.nil 1)] []⟩,
    ⟨(some 19), 304, none, .mv (.t 6)⟩,
    ⟨none, 0, none, .st 3 (.t 4) (.t 18)⟩,
    ⟨(some 5), 80, none, .mv (.t 19)⟩])
  .ret) .skip)))
  (.seq (.seq (.reg [⟨(some 20), 320, none, .ld 3 true (.t 3)⟩,
    ⟨(some 21), 336, none, .call (.c (.fn (.func 22) [] [])) [(.t 20)]⟩,
    ⟨(some 7), 112, none, .mv (.t 21)⟩])
  (.seq (.reg [⟨(some 22), 352, none, .mv (.t 7)⟩,
    ⟨(some 23), 368, none, .bi false .neq (.t 22) (.c (.int .i64 0))⟩])
  (.cond (.t 23) (.seq (.reg [⟨(some 24), 384, none, .bd [(.nil 1), (.nil 1), (.nil 1)] []⟩,
    ⟨(some 25), 400, none, .mv (.t 7)⟩,
    ⟨none, 0, none, .st 3 (.t 4) (.t 24)⟩,
    ⟨(some 5), 80, none, .mv (.t 25)⟩])
  .ret) .skip)))
  (.seq (.drw [⟨(some 26), 416, none, .fa 0 (.t 2)⟩,
    ⟨(some 27), 432, none, .ld 1 false (.t 26)⟩,
    ⟨(some 28), 448, none, .fa 0 (.t 3)⟩,
    ⟨(some 29), 464, none, .ld 1 false (.t 28)⟩,
    ⟨(some 30), 480, none, .call (.c (.fn (.func 45) [] [])) [(.t 27), (.t 29)]⟩,
    ⟨(some 31), 496, none, .fa 1 (.t 2)⟩,
    ⟨(some 32), 512, none, .ld 1 false (.t 31)⟩,
    ⟨(some 33), 528, none, .fa 1 (.t 3)⟩,
    ⟨(some 34), 544, none, .ld 1 false (.t 33)⟩,
    ⟨(some 35), 560, none, .call (.c (.fn (.func 45) [] [])) [(.t 32), (.t 34)]⟩,
    ⟨(some 36), 576, none, .bd [(.nil 1), (.nil 1), (.nil 1)] [(0, 1, (.t 30)), (1, 1, (.t 35))]⟩,
    ⟨(some 8), 128, none, .al [(.nil 1), (.nil 1), (.nil 1)]⟩,
    ⟨none, 0, none, .st 3 (.t 8) (.t 36)⟩]
    [(0, 2, 26), (0, 3, 26), (0, 5, 26), (0, 6, 26), (0, 7, 26), (0, 8, 26), (0, 11, 26), (1, 2, 27), (1, 3, 27), (1, 5, 27), (1, 6, 27), (1, 7, 27), (1, 8, 27), (1, 11, 27), (2, 5, 28), (2, 6, 28), (2, 7, 28), (2, 8, 28), (2, 11, 28), (3, 5, 29), (3, 6, 29), (3, 7, 29), (3, 8, 29), (3, 11, 29), (4, 5, 30), (4, 6, 30), (4, 7, 30), (4, 8, 30), (4, 11, 30), (5, 7, 31), (5, 8, 31), (5, 11, 31), (6, 7, 32), (6, 8, 32), (6, 11, 32), (7, 11, 33), (8, 11, 34), (9, 11, 35), (10, 11, 36)])
  (.seq (.seq (.reg [⟨(some 37), 592, none, .fa 0 (.t 8)⟩,
    ⟨(some 38), 608, none, .ld 1 false (.t 37)⟩,
    ⟨(some 39), 624, none, .len (.t 38)⟩,
    ⟨(some 40), 640, none, .bi false .gtr (.t 39) (.c (.int .i64 20))⟩,
    ⟨(some 41), 656, none, .mv (.t 40)⟩,
    ⟨(some 42), 672, (some (41, false)), .fa 1 (.t 8)⟩,
    ⟨(some 43), 688, (some (41, false)), .ld 1 false (.t 42)⟩,
    ⟨(some 44), 704, (some (41, false)), .len (.t 43)⟩,
    ⟨(some 45), 720, (some (41, false)), .bi false .gtr (.t 44) (.c (.int .i64 20))⟩,
    ⟨(some 46), 736, none, .pick (.t 41) (.c (.bool true)) (.t 45)⟩])
  (.cond (.t 46) (.seq (.reg [⟨(some 47), 752, none, .bd [(.nil 1), (.nil 1), (.nil 1)] []⟩,
    ⟨none, 0, none, .st 3 (.t 4) (.t 47)⟩,
    ⟨(some 5), 80, none, .mv (.c (.int .i64 42))⟩])
  .ret) .skip))
  (.seq (.seq (.reg [⟨(some 48), 768, none, .fa 0 (.t 8)⟩,
    ⟨(some 49), 784, none, .ld 1 false (.t 48)⟩,
    ⟨(some 50), 800, none, .len (.t 49)⟩,
    ⟨(some 51), 816, none, .mv (.c (.int .i64 0))⟩])
  (.block 0 (.loop c24L1)))
  (.seq (.reg [⟨(some 82), 1312, none, .ld 3 true (.t 8)⟩,
    ⟨none, 0, none, .st 3 (.t 4) (.t 82)⟩,
    ⟨(some 5), 80, none, .mv (.c (.int .i64 0))⟩])
  .ret)))))))
theorem fits24 : fits Tryd.prog false Tryd.f24 2 83 [(4, some (3, true)), (5, none)] = some c24.er := by kernel_rfl

def cellJ (a b : FT) (lv q : Int) : Int := mx (atF a lv q) (atF b lv q)
def rowJ (a b : FT) (I : List Int) (lv : Int) : List Int := I.map (cellJ a b lv)
def joinF (a b : FT) : FT × Int :=
  if checkF a ≠ 0 then (FT0, checkF a) else if checkF b ≠ 0 then (FT0, checkF b)
  else if 20 < (bothF a.lv b.lv).length ∨ 20 < (bothF a.inf b.inf).length then (FT0, 42)
  else (⟨bothF a.lv b.lv, bothF a.inf b.inf, (bothF a.lv b.lv).map (rowJ a b (bothF a.inf b.inf))⟩, 0)
theorem map_take {α β : Type} [Inhabited α] {l : List α} {f : α → β} {i : Nat} (h : i < l.length) : (l.take (i + 1)).map f = (l.take i).map f ++ [f (l.getD i default)] := by
  rw [← take_push h, List.map_append]; rfl
theorem map_take_len {α β : Type} {l : List α} {f : α → β} {i : Nat} (h : i ≤ l.length) : ((l.take i).map f).length = i := by
  rw [List.length_map, List.length_take]; omega

set_option maxRecDepth 100000 in
set_option maxHeartbeats 16000000 in
theorem call24 (σ σ' : Nat) (a b : FT) (a1 : a.lv.length ≤ 4611686018427387904) (a2 : a.inf.length ≤ 4611686018427387904) (a3 : a.rel.length ≤ 4611686018427387904) (a4 : ∀ i, i < a.rel.length → (a.rel.getD i default).length ≤ 4611686018427387904)
    (b1 : b.lv.length ≤ 4611686018427387904) (b2 : b.inf.length ≤ 4611686018427387904) (b3 : b.rel.length ≤ 4611686018427387904) (b4 : ∀ i, i < b.rel.length → (b.rel.getD i default).length ≤ 4611686018427387904) :
    PureCall Tryd.prog 24 [.agg (eFT 2 σ a), .agg (eFT 2 σ' b)] [] ⟨.tup [.agg (eFT 0 0 (joinF a b).1), .int .i64 (joinF a b).2], [], []⟩ := by
  refine pure_call mix Tryd.func24 fits24 rfl ?_
  conv => whnf
  refine ⟨_, fun _ => call22 2 σ a a1 a2 a3 a4, ?_⟩
  have hoka := check_ok (t := a)
  have hokb := check_ok (t := b)
  unfold joinF
  generalize checkF a = E1 at hoka ⊢
  conv => whnf
  refine ⟨?_, fun hc => ?_, fun hc => ?_⟩
  · (try conv => whnf)
    (repeat' (first | exact True.intro | exact fun _ h => h | refine inR64_of ?_ ?_ | apply And.intro | refine maxLen_ge ?_)) <;> (first | omega | (dsimp only; omega) | (dsimp only [List.length_cons, List.length_nil]; omega) | (intro hg; rw [hg]; rfl) | (intro hg hh; rw [hg, hh]; rfl) | (intro hg; simp [-List.getD_eq_getElem?_getD, -Int.default_eq_zero] at hg; first | omega | (refine inR64_of ?_ ?_ <;> omega) | (constructor <;> omega)) | (simp [-List.getD_eq_getElem?_getD, -Int.default_eq_zero]; done))
  · simp only [bif_t, bif_f, decide_eq_true_eq, decide_eq_false_iff_not, Bool.not_eq_true', Bool.not_eq_false', Bool.and_eq_true, Bool.or_eq_true, Bool.and_eq_false_iff, Bool.or_eq_false_iff, beq_iff_eq, bne_iff_ne, beq_eq_false_iff_ne, bne_eq_false_iff_eq, reduceCtorEq, false_and, and_false, true_and, and_true, or_false, false_or, or_true, true_or, not_true_eq_false, not_false_eq_true, Int.toNat_zero] at hc
    rw [if_pos hc]
    conv => whnf
    refine ⟨?_, [], ?_⟩
    · (try conv => whnf)
      (repeat' (first | exact True.intro | exact fun _ h => h | refine inR64_of ?_ ?_ | apply And.intro | refine maxLen_ge ?_)) <;> (first | omega | (dsimp only; omega) | (dsimp only [List.length_cons, List.length_nil]; omega) | (intro hg; rw [hg]; rfl) | (intro hg hh; rw [hg, hh]; rfl) | (intro hg; simp [-List.getD_eq_getElem?_getD, -Int.default_eq_zero] at hg; first | omega | (refine inR64_of ?_ ?_ <;> omega) | (constructor <;> omega)) | (simp [-List.getD_eq_getElem?_getD, -Int.default_eq_zero]; done))
    conv => whnf
    refine ⟨rfl, ?_, trivial, trivial⟩
    all_goals repeat' (first | exact True.intro | refine leF_cons rfl ?_ ?_ | refine leS_cons rfl ?_ ?_ | (show PLe _ _ _ _; conv => whnf) | (show SLe _ _ _ _; conv => whnf) | (show PLeL _ _ _ _; conv => whnf) | apply And.intro | rfl | exact Nat.le_refl _ | exact fun _ _ => rfl | exact rowEq0 _ _)
  simp only [bif_t, bif_f, decide_eq_true_eq, decide_eq_false_iff_not, Bool.not_eq_true', Bool.not_eq_false', Bool.and_eq_true, Bool.or_eq_true, Bool.and_eq_false_iff, Bool.or_eq_false_iff, beq_iff_eq, bne_iff_ne, beq_eq_false_iff_ne, bne_eq_false_iff_eq, reduceCtorEq, false_and, and_false, true_and, and_true, or_false, false_or, or_true, true_or, not_true_eq_false, not_false_eq_true, Int.toNat_zero] at hc
  rw [if_neg (by omega)]
  have ha := hoka (by omega)
  conv => whnf
  refine ⟨_, fun _ => call22 2 σ' b b1 b2 b3 b4, ?_⟩
  generalize checkF b = E2 at hokb ⊢
  conv => whnf
  refine ⟨?_, fun hc2 => ?_, fun hc2 => ?_⟩
  · (try conv => whnf)
    (repeat' (first | exact True.intro | exact fun _ h => h | refine inR64_of ?_ ?_ | apply And.intro | refine maxLen_ge ?_)) <;> (first | omega | (dsimp only; omega) | (dsimp only [List.length_cons, List.length_nil]; omega) | (intro hg; rw [hg]; rfl) | (intro hg hh; rw [hg, hh]; rfl) | (intro hg; simp [-List.getD_eq_getElem?_getD, -Int.default_eq_zero] at hg; first | omega | (refine inR64_of ?_ ?_ <;> omega) | (constructor <;> omega)) | (simp [-List.getD_eq_getElem?_getD, -Int.default_eq_zero]; done))
  · simp only [bif_t, bif_f, decide_eq_true_eq, decide_eq_false_iff_not, Bool.not_eq_true', Bool.not_eq_false', Bool.and_eq_true, Bool.or_eq_true, Bool.and_eq_false_iff, Bool.or_eq_false_iff, beq_iff_eq, bne_iff_ne, beq_eq_false_iff_ne, bne_eq_false_iff_eq, reduceCtorEq, false_and, and_false, true_and, and_true, or_false, false_or, or_true, true_or, not_true_eq_false, not_false_eq_true, Int.toNat_zero] at hc2
    rw [if_pos hc2]
    conv => whnf
    refine ⟨?_, [], ?_⟩
    · (try conv => whnf)
      (repeat' (first | exact True.intro | exact fun _ h => h | refine inR64_of ?_ ?_ | apply And.intro | refine maxLen_ge ?_)) <;> (first | omega | (dsimp only; omega) | (dsimp only [List.length_cons, List.length_nil]; omega) | (intro hg; rw [hg]; rfl) | (intro hg hh; rw [hg, hh]; rfl) | (intro hg; simp [-List.getD_eq_getElem?_getD, -Int.default_eq_zero] at hg; first | omega | (refine inR64_of ?_ ?_ <;> omega) | (constructor <;> omega)) | (simp [-List.getD_eq_getElem?_getD, -Int.default_eq_zero]; done))
    conv => whnf
    refine ⟨rfl, ?_, trivial, trivial⟩
    all_goals repeat' (first | exact True.intro | refine leF_cons rfl ?_ ?_ | refine leS_cons rfl ?_ ?_ | (show PLe _ _ _ _; conv => whnf) | (show SLe _ _ _ _; conv => whnf) | (show PLeL _ _ _ _; conv => whnf) | apply And.intro | rfl | exact Nat.le_refl _ | exact fun _ _ => rfl | exact rowEq0 _ _)
  simp only [bif_t, bif_f, decide_eq_true_eq, decide_eq_false_iff_not, Bool.not_eq_true', Bool.not_eq_false', Bool.and_eq_true, Bool.or_eq_true, Bool.and_eq_false_iff, Bool.or_eq_false_iff, beq_iff_eq, bne_iff_ne, beq_eq_false_iff_ne, bne_eq_false_iff_eq, reduceCtorEq, false_and, and_false, true_and, and_true, or_false, false_or, or_true, true_or, not_true_eq_false, not_false_eq_true, Int.toNat_zero] at hc2
  rw [if_neg (by omega)]
  have hb := hokb (by omega)
  have la1 := ha.l1
  have la2 := ha.l2
  have lb1 := hb.l1
  have lb2 := hb.l2
  conv => whnf
  refine ⟨_, fun _ => call45 a.lv b.lv (by omega) (by omega) (by omega), ?_⟩
  conv => whnf
  refine ⟨_, fun _ => call45 a.inf b.inf (by omega) (by omega) (by omega), ?_⟩
  generalize bothF a.lv b.lv = L
  generalize bothF a.inf b.inf = I
  conv => whnf
  refine ⟨rfl, ?_⟩
  conv => whnf
  refine ⟨?_, fun hc3 => ?_, fun hc3 => ?_⟩
  · (try conv => whnf)
    (repeat' (first | exact True.intro | exact fun _ h => h | refine inR64_of ?_ ?_ | apply And.intro | refine maxLen_ge ?_)) <;> (first | omega | (dsimp only; omega) | (dsimp only [List.length_cons, List.length_nil]; omega) | (intro hg; rw [hg]; rfl) | (intro hg hh; rw [hg, hh]; rfl) | (intro hg; simp [-List.getD_eq_getElem?_getD, -Int.default_eq_zero] at hg; first | omega | (refine inR64_of ?_ ?_ <;> omega) | (constructor <;> omega)) | (simp [-List.getD_eq_getElem?_getD, -Int.default_eq_zero]; done))
  · simp only [bif_t, bif_f, decide_eq_true_eq, decide_eq_false_iff_not, Bool.not_eq_true', Bool.not_eq_false', Bool.and_eq_true, Bool.or_eq_true, Bool.and_eq_false_iff, Bool.or_eq_false_iff, beq_iff_eq, bne_iff_ne, beq_eq_false_iff_ne, bne_eq_false_iff_eq, reduceCtorEq, false_and, and_false, true_and, and_true, or_false, false_or, or_true, true_or, not_true_eq_false, not_false_eq_true, Int.toNat_zero] at hc3
    rw [if_pos (by omega)]
    conv => whnf
    refine ⟨?_, [], ?_⟩
    · (try conv => whnf)
      (repeat' (first | exact True.intro | exact fun _ h => h | refine inR64_of ?_ ?_ | apply And.intro | refine maxLen_ge ?_)) <;> (first | omega | (dsimp only; omega) | (dsimp only [List.length_cons, List.length_nil]; omega) | (intro hg; rw [hg]; rfl) | (intro hg hh; rw [hg, hh]; rfl) | (intro hg; simp [-List.getD_eq_getElem?_getD, -Int.default_eq_zero] at hg; first | omega | (refine inR64_of ?_ ?_ <;> omega) | (constructor <;> omega)) | (simp [-List.getD_eq_getElem?_getD, -Int.default_eq_zero]; done))
    conv => whnf
    refine ⟨rfl, ?_, trivial, trivial⟩
    all_goals repeat' (first | exact True.intro | refine leF_cons rfl ?_ ?_ | refine leS_cons rfl ?_ ?_ | (show PLe _ _ _ _; conv => whnf) | (show SLe _ _ _ _; conv => whnf) | (show PLeL _ _ _ _; conv => whnf) | apply And.intro | rfl | exact Nat.le_refl _ | exact fun _ _ => rfl | exact rowEq0 _ _)
  simp only [bif_t, bif_f, decide_eq_true_eq, decide_eq_false_iff_not, Bool.not_eq_true', Bool.not_eq_false', Bool.and_eq_true, Bool.or_eq_true, Bool.and_eq_false_iff, Bool.or_eq_false_iff, beq_iff_eq, bne_iff_ne, beq_eq_false_iff_ne, bne_eq_false_iff_eq, reduceCtorEq, false_and, and_false, true_and, and_true, or_false, false_or, or_true, true_or, not_true_eq_false, not_false_eq_true, Int.toNat_zero] at hc3
  rw [if_neg (by omega)]
  conv => whnf
  refine ⟨?_, ?_⟩
  · (try conv => whnf)
    (repeat' (first | exact True.intro | exact fun _ h => h | refine inR64_of ?_ ?_ | apply And.intro | refine maxLen_ge ?_)) <;> (first | omega | (dsimp only; omega) | (dsimp only [List.length_cons, List.length_nil]; omega) | (intro hg; rw [hg]; rfl) | (intro hg hh; rw [hg, hh]; rfl) | (intro hg; simp [-List.getD_eq_getElem?_getD, -Int.default_eq_zero] at hg; first | omega | (refine inR64_of ?_ ?_ <;> omega) | (constructor <;> omega)) | (simp [-List.getD_eq_getElem?_getD, -Int.default_eq_zero]; done))
  refine LSem.adoptF 128 2 1000001 22 1 1 _ rfl rfl rfl ?_
  refine LSem.loop (n := 83) mix (α := Nat) (fun i => i ≤ L.length)
    (fun i => [(2, .pt 32 0 0), (3, .pt 48 0 0), (4, .pt 64 0 0), (8, .pt 128 0 0), (49, .sl 0 1 L.length (fl eInt L)), (50, .int .i64 L.length), (51, .int .i64 i)])
    (fun i => [(32, .box [.sl 2 1 a.lv.length (fl eInt a.lv), .sl 2 1 a.inf.length (fl eInt a.inf), .sl 2 1 a.rel.length (fl (eIs σ) a.rel)]), (48, .box [.sl 2 1 b.lv.length (fl eInt b.lv), .sl 2 1 b.inf.length (fl eInt b.inf), .sl 2 1 b.rel.length (fl (eIs σ') b.rel)]),
      (64, .box [.nil 1, .nil 1, .nil 1]), (128, .box [.sl 0 1 L.length (fl eInt L), .sl 0 1 I.length (fl eInt I), .os 1000001]), (1000001, .row 0 22 1 ((L.take i).map (rowJ a b I)).length (fl (eIs 0) ((L.take i).map (rowJ a b I))))]) (fun i => L.length - i) 0 ?_ ?_ ?_
  · exact Nat.zero_le _
  · refine ⟨rfl, rfl, ?_, ?_⟩
    all_goals repeat' (first | exact True.intro | refine leF_cons rfl ?_ ?_ | refine leS_cons rfl ?_ ?_ | (show PLe _ _ _ _; conv => whnf) | (show SLe _ _ _ _; conv => whnf) | (show PLeL _ _ _ _; conv => whnf) | apply And.intro | rfl | exact Nat.le_refl _ | exact fun _ _ => rfl | exact rowEq0 _ _)
    all_goals skip
  · intro i hi
    have hj : ((i : Int)).toNat = i := by omega
    have hrl := map_take_len (f := rowJ a b I) hi
    conv => whnf
    refine ⟨trivial, fun hc4 => ?_, fun hc4 => ?_⟩
    · replace hc4 := of_decide_eq_true hc4
      have hlt : i < L.length := by
        have h : (i : Int) < L.length := hc4
        omega
      have hst := map_take (f := rowJ a b I) hlt
      conv => whnf
      rw [hj]
      generalize L.getD i default = lv at hst ⊢
      refine ⟨?_, ?_⟩
      · (try conv => whnf)
        (repeat' (first | exact True.intro | exact fun _ h => h | refine inR64_of ?_ ?_ | apply And.intro | refine maxLen_ge ?_)) <;> (first | omega | (dsimp only; omega) | (dsimp only [List.length_cons, List.length_nil]; omega) | (intro hg; rw [hg]; rfl) | (intro hg hh; rw [hg, hh]; rfl) | (intro hg; simp [-List.getD_eq_getElem?_getD, -Int.default_eq_zero] at hg; first | omega | (refine inR64_of ?_ ?_ <;> omega) | (constructor <;> omega)) | (simp [-List.getD_eq_getElem?_getD, -Int.default_eq_zero]; done))
      refine LSem.adopt 11 1000000 3 1 1 rfl rfl ?_
      refine LSem.loop (n := 83) mix (α := Nat) (fun k => k ≤ I.length)
        (fun k => [(2, .pt 32 0 0), (3, .pt 48 0 0), (4, .pt 64 0 0), (8, .pt 128 0 0), (10, .int .i64 lv), (11, .os 1000000), (49, .sl 0 1 L.length (fl eInt L)), (50, .int .i64 L.length), (51, .int .i64 i), (56, .sl 0 1 I.length (fl eInt I)), (57, .int .i64 I.length), (58, .int .i64 k)])
        (fun k => [(32, .box [.sl 2 1 a.lv.length (fl eInt a.lv), .sl 2 1 a.inf.length (fl eInt a.inf), .sl 2 1 a.rel.length (fl (eIs σ) a.rel)]), (48, .box [.sl 2 1 b.lv.length (fl eInt b.lv), .sl 2 1 b.inf.length (fl eInt b.inf), .sl 2 1 b.rel.length (fl (eIs σ') b.rel)]),
          (64, .box [.nil 1, .nil 1, .nil 1]), (128, .box [.sl 0 1 L.length (fl eInt L), .sl 0 1 I.length (fl eInt I), .os 1000001]), (1000001, .row 0 22 1 ((L.take i).map (rowJ a b I)).length (fl (eIs 0) ((L.take i).map (rowJ a b I)))),
          (1000000, .row 0 3 1 ((I.take k).map (cellJ a b lv)).length (fl eInt ((I.take k).map (cellJ a b lv))))]) (fun k => I.length - k) 0 ?_ ?_ ?_
      · exact Nat.zero_le _
      · refine ⟨rfl, rfl, ?_, ?_⟩
        all_goals repeat' (first | exact True.intro | refine leF_cons rfl ?_ ?_ | refine leS_cons rfl ?_ ?_ | (show PLe _ _ _ _; conv => whnf) | (show SLe _ _ _ _; conv => whnf) | (show PLeL _ _ _ _; conv => whnf) | apply And.intro | rfl | exact Nat.le_refl _ | exact fun _ _ => rfl | exact rowEq0 _ _)
        all_goals skip
      · intro k hk
        have hj2 : ((k : Int)).toNat = k := by omega
        have hil := map_take_len (f := cellJ a b lv) hk
        conv => whnf
        refine ⟨trivial, fun hc5 => ?_, fun hc5 => ?_⟩
        · replace hc5 := of_decide_eq_true hc5
          have hlt2 : k < I.length := by
            have h : (k : Int) < I.length := hc5
            omega
          have hst2 := map_take (f := cellJ a b lv) hlt2
          have q := fl_push eInt ((I.take k).map (cellJ a b lv)) (cellJ a b lv (I.getD k default))
          rw [← hst2] at q
          have hil2 := map_take_len (f := cellJ a b lv) (i := k + 1) hlt2
          conv => whnf
          rw [hj2]
          refine ⟨_, fun _ => call39 1 σ a lv (I.getD k default) ha, ?_⟩
          conv => whnf
          refine ⟨_, fun _ => call39 1 σ' b lv (I.getD k default) hb, ?_⟩
          conv => whnf
          refine ⟨rfl, ?_⟩
          conv => whnf
          refine ⟨?_, k + 1, hlt2, ?_, rfl, rfl, ?_, ?_⟩
          · (try conv => whnf)
            (repeat' (first | exact True.intro | exact fun _ h => h | refine inR64_of ?_ ?_ | apply And.intro | refine maxLen_ge ?_))
            all_goals (try simp only [hil, List.length_cons, List.length_nil])
            all_goals first | omega | skip
          · omega
          all_goals repeat' (first | exact True.intro | refine leF_cons rfl ?_ ?_ | refine leS_cons rfl ?_ ?_ | (show PLe _ _ _ _; conv => whnf) | (show SLe _ _ _ _; conv => whnf) | (show PLeL _ _ _ _; conv => whnf) | apply And.intro | rfl | exact Nat.le_refl _ | exact fun _ _ => rfl | exact rowEq0 _ _)
          all_goals first | exact q | (rw [hil2, hil]; rfl) | omega | skip
        · replace hc5 := of_decide_eq_false hc5
          have hk2 : k = I.length := by
            have h : ¬ (k : Int) < I.length := hc5
            omega
          subst hk2
          rw [List.take_length]
          have q := fl_push (eIs 0) ((L.take i).map (rowJ a b I)) (rowJ a b I lv)
          rw [← hst] at q
          have hrl2 := map_take_len (f := rowJ a b I) (i := i + 1) hlt
          conv => whnf
          refine ⟨?_, i + 1, hlt, ?_, rfl, rfl, ?_, ?_⟩
          · (try conv => whnf)
            (repeat' (first | exact True.intro | exact fun _ h => h | refine inR64_of ?_ ?_ | apply And.intro | refine maxLen_ge ?_))
            all_goals (try simp only [hrl, List.length_cons, List.length_nil])
            all_goals first | omega | skip
          · omega
          all_goals repeat' (first | exact True.intro | refine leF_cons rfl ?_ ?_ | refine leS_cons rfl ?_ ?_ | (show PLe _ _ _ _; conv => whnf) | (show SLe _ _ _ _; conv => whnf) | (show PLeL _ _ _ _; conv => whnf) | apply And.intro | rfl | exact Nat.le_refl _ | exact fun _ _ => rfl | exact rowEq0 _ _)
          all_goals first | exact q | (rw [hrl2, hrl]; rfl) | omega | skip
    · replace hc4 := of_decide_eq_false hc4
      have hk : i = L.length := by
        have h : ¬ (i : Int) < L.length := hc4
        omega
      subst hk
      rw [List.take_length]
      conv => whnf
      refine ⟨?_, [], ?_⟩
      · (try conv => whnf)
        (repeat' (first | exact True.intro | exact fun _ h => h | refine inR64_of ?_ ?_ | apply And.intro | refine maxLen_ge ?_)) <;> (first | omega | (dsimp only; omega) | (dsimp only [List.length_cons, List.length_nil]; omega) | (intro hg; rw [hg]; rfl) | (intro hg hh; rw [hg, hh]; rfl) | (intro hg; simp [-List.getD_eq_getElem?_getD, -Int.default_eq_zero] at hg; first | omega | (refine inR64_of ?_ ?_ <;> omega) | (constructor <;> omega)) | (simp [-List.getD_eq_getElem?_getD, -Int.default_eq_zero]; done))
      conv => whnf
      refine ⟨rfl, ?_, trivial, trivial⟩
      all_goals repeat' (first | exact True.intro | refine leF_cons rfl ?_ ?_ | refine leS_cons rfl ?_ ?_ | (show PLe _ _ _ _; conv => whnf) | (show SLe _ _ _ _; conv => whnf) | (show PLeL _ _ _ _; conv => whnf) | apply And.intro | rfl | exact Nat.le_refl _ | exact fun _ _ => rfl | exact rowEq0 _ _)
end Pv
end Go.Proofs.YtcfcmafmdpbjoaaDoor

/- LAW 24, PLAIN: what the table of two tables releases. -/
set_option linter.unusedSimpArgs false
set_option linter.unusedVariables false
namespace Go.Proofs.YtcfcmafmdpbjoaaDoor
namespace Pv

theorem srt_sorted (l : List Int) : (srt l).Pairwise (· ≤ ·) := by
  have := List.pairwise_mergeSort (le := fun x y : Int => decide (x ≤ y)) (fun a b c h1 h2 => by simp at *; omega) (fun a b => by simp; omega) l
  exact this.imp fun h => by simpa using h
theorem srt_mem (l : List Int) (x : Int) : x ∈ srt l ↔ x ∈ l := List.mem_mergeSort
theorem compact_inc (l : List Int) (h : l.Pairwise (· ≤ ·)) : (Lib.compact l).Pairwise (· < ·) := by
  unfold Lib.compact Lib.compactUpTo
  rw [List.pairwise_map]
  have hr : (List.range l.length).Pairwise (· < ·) := List.pairwise_lt_range
  have hf := hr.filter (Lib.keeps l.toArray)
  refine List.Pairwise.imp_of_mem ?_ hf
  intro i j hi hj hij
  rw [List.mem_filter, List.mem_range] at hi hj
  have hk := hj.2
  have hget : ∀ k, k < l.length → l.toArray[k]! = l.getD k default := fun k hk => by simp [hk]
  have hle : ∀ p q, p < q → q < l.length → l.getD p default ≤ l.getD q default := fun p q hp hq => by
    have := List.pairwise_iff_getElem.1 h p q (by omega) hq hp
    rw [List.getD_eq_getElem?_getD, List.getD_eq_getElem?_getD, List.getElem?_eq_getElem hq, List.getElem?_eq_getElem (by omega)]; exact this
  unfold Lib.keeps at hk
  rw [hget i hi.1, hget j hj.1]
  have h2 : l.getD (j - 1) default ≤ l.getD j default := hle (j - 1) j (by omega) hj.1
  have h3 : l.getD i default ≤ l.getD (j - 1) default := by
    by_cases e : i = j - 1
    · rw [e]; exact Int.le_refl _
    · exact hle i (j - 1) (by omega) (by omega)
  rw [hget j hj.1, hget (j - 1) (by omega)] at hk
  have hne : l.getD j default ≠ l.getD (j - 1) default := by
    rcases of_decide_eq_true hk with h0 | h0
    · omega
    · exact h0
  omega
theorem compact_mem (l : List Int) (x : Int) : x ∈ Lib.compact l ↔ x ∈ l := by
  have hget : ∀ k, k < l.length → l.toArray[k]! = l.getD k default := fun k hk => by simp [hk]
  unfold Lib.compact Lib.compactUpTo
  rw [List.mem_map]
  constructor
  · rintro ⟨j, hj, rfl⟩
    rw [List.mem_filter, List.mem_range] at hj
    rw [hget j hj.1]; exact getD_mem hj.1
  · intro hx
    obtain ⟨i, hi, rfl⟩ := List.getElem_of_mem hx
    have key : ∀ i, i < l.length → ∃ j, j < l.length ∧ Lib.keeps l.toArray j = true ∧ l.getD j default = l.getD i default := by
      intro i
      induction i with
      | zero => intro hi; exact ⟨0, hi, by simp [Lib.keeps], rfl⟩
      | succ i ih =>
        intro hi
        cases hk : Lib.keeps l.toArray (i + 1) with
        | true => exact ⟨i + 1, hi, hk, rfl⟩
        | false =>
          unfold Lib.keeps at hk
          have h1 := of_decide_eq_false hk
          rw [hget _ hi, hget (i + 1 - 1) (by omega)] at h1
          obtain ⟨j, h2, h3, h4⟩ := ih (by omega)
          refine ⟨j, h2, h3, ?_⟩
          rw [h4]
          rw [Nat.add_sub_cancel] at h1
          by_cases e : l.getD (i + 1) default = l.getD i default
          · exact e.symm
          · exact absurd (.inr e) h1
    obtain ⟨j, h2, h3, h4⟩ := key i hi
    refine ⟨j, by rw [List.mem_filter, List.mem_range]; exact ⟨h2, h3⟩, ?_⟩
    rw [hget j h2, h4, List.getD_eq_getElem?_getD, List.getElem?_eq_getElem hi]; rfl

/-! ### ascending numbers -/
def Asc (l : List Int) : Prop := ∀ i j, i < j → j < l.length → l.getD i default < l.getD j default
theorem asc_pair {l : List Int} (h : l.Pairwise (· < ·)) : Asc l := fun i j hij hj => by
  have := List.pairwise_iff_getElem.1 h i j (by omega) hj hij
  rw [List.getD_eq_getElem?_getD, List.getD_eq_getElem?_getD, List.getElem?_eq_getElem hj, List.getElem?_eq_getElem (by omega)]; exact this
theorem both_asc (l m : List Int) : Asc (bothF l m) := asc_pair (compact_inc _ (srt_sorted _))
theorem both_mem (l m : List Int) (x : Int) : x ∈ bothF l m ↔ x ∈ l ∨ x ∈ m := by
  unfold bothF
  rw [compact_mem, srt_mem, List.mem_append]
theorem both_len (l m : List Int) : (bothF l m).length ≤ l.length + m.length := by
  have h : (Lib.compact (srt (l ++ m))).length ≤ (srt (l ++ m)).length := by
    unfold Lib.compact Lib.compactUpTo
    rw [List.length_map]
    exact Nat.le_trans (List.length_filter_le ..) (by simp)
  rw [srt_len, List.length_append] at h
  exact h
theorem rise_asc {l : List Int} {most : Int} (h : ∀ i, i < l.length → riseE l most i = 0) : Asc l := fun i j hij hj => by
  have key : ∀ k, i + k + 1 < l.length → l.getD i default < l.getD (i + k + 1) default := by
    intro k
    induction k with
    | zero =>
      intro hk
      have h2 := h (i + 1) hk
      unfold riseE at h2
      split at h2
      · cases h2
      · split at h2
        · cases h2
        · rename_i h3
          rw [show i + 1 - 1 = i by omega] at h3
          rw [show i + 0 + 1 = i + 1 by omega]
          omega
    | succ k ih =>
      intro hk
      have h1 := ih (by omega)
      have h2 := h (i + (k + 1) + 1) hk
      unfold riseE at h2
      split at h2
      · cases h2
      · split at h2
        · cases h2
        · rename_i h3
          rw [show i + (k + 1) + 1 - 1 = i + k + 1 by omega] at h3
          omega
  have := key (j - i - 1) (by omega)
  rw [show i + (j - i - 1) + 1 = j by omega] at this
  exact this
theorem asc_rise {l : List Int} {most : Int} (h : Asc l) (hr : ∀ x ∈ l, 0 ≤ x ∧ x ≤ most) : ∀ i, i < l.length → riseE l most i = 0 := fun i hi => by
  have h1 := hr _ (getD_mem hi)
  unfold riseE
  rw [if_neg (by omega), if_neg]
  rintro ⟨h0, h2⟩
  have := h (i - 1) i (by omega) hi
  omega
/-- The place of a number, in words. -/
def PlaceAt (l : List Int) (x : Int) (p : Nat) : Prop := p < l.length ∧ (p = 0 ∨ l.getD p default ≤ x) ∧ ∀ i, p < i → i < l.length → x < l.getD i default
theorem place_at {l : List Int} (h : Asc l) (h0 : 0 < l.length) (x : Int) : ∃ p : Nat, placeF l x = p ∧ PlaceAt l x p := by
  have hs := fstN_spec (p := fun i => x < l.getD i default) (k := l.length) (i := 0)
  have hl := fstN_le (fun i => x < l.getD i default) l.length 0
  unfold placeF
  generalize fstN (fun i => x < l.getD i default) 0 l.length = r at hs hl ⊢
  cases r with
  | zero =>
    refine ⟨0, by unfold mx; split <;> omega, h0, .inl rfl, fun i h1 h2 => ?_⟩
    have h3 : x < l.getD 0 default := hs.2 (by omega)
    have h4 := h 0 i h1 h2
    omega
  | succ r =>
    refine ⟨r, by unfold mx; split <;> omega, by omega, .inr ?_, fun i h1 h2 => ?_⟩
    · have := hs.1 r (Nat.zero_le _) (by omega)
      omega
    · have h3 : x < l.getD (r + 1) default := hs.2 (by omega)
      by_cases e : i = r + 1
      · rw [e]; exact h3
      · have h4 := h (r + 1) i (by omega) h2
        omega
theorem place_uniq {l : List Int} {x : Int} {p q : Nat} (hp : PlaceAt l x p) (hq : PlaceAt l x q) : p = q := by
  obtain ⟨a1, a2, a3⟩ := hp
  obtain ⟨b1, b2, b3⟩ := hq
  rcases Nat.lt_trichotomy p q with h | h | h
  · have := a3 q h b1
    rcases b2 with b2 | b2 <;> omega
  · exact h
  · have := b3 p h a1
    rcases a2 with a2 | a2 <;> omega
/-- The place among fewer numbers is that of the number found among more. -/
theorem place_sub {A L : List Int} (hA : Asc A) (hL : Asc L) (hs : ∀ x ∈ A, x ∈ L) (h0 : 0 < A.length) (x : Int) {p : Nat} (hp : PlaceAt L x p) : placeF A (L.getD p default) = placeF A x := by
  obtain ⟨c1, c2, c3⟩ := hp
  obtain ⟨q, e, d1, d2, d3⟩ := place_at hA h0 (L.getD p default)
  obtain ⟨q', e', hq'⟩ := place_at hA h0 x
  have hidx : ∀ i, i < A.length → ∃ j, j < L.length ∧ L.getD j default = A.getD i default := fun i hi => by
    obtain ⟨j, hj, h⟩ := List.getElem_of_mem (hs _ (getD_mem hi))
    exact ⟨j, hj, by rw [List.getD_eq_getElem?_getD, List.getElem?_eq_getElem hj]; exact h⟩
  have hmono : ∀ i j, i < L.length → j < L.length → L.getD i default < L.getD j default → i < j := fun i j hi hj h => by
    rcases Nat.lt_trichotomy i j with h1 | h1 | h1
    · exact h1
    · subst h1; omega
    · have := hL j i h1 hi; omega
  have hpl : PlaceAt A x q := by
    refine ⟨d1, ?_, fun i h1 h2 => ?_⟩
    · by_cases hq0 : q = 0
      · exact .inl hq0
      · right
        have d2' : A.getD q default ≤ L.getD p default := by rcases d2 with h | h; · exact absurd h hq0
                                                             · exact h
        rcases c2 with hp0 | hpx
        · subst hp0
          obtain ⟨j, hj, hjv⟩ := hidx 0 h0
          have h3 := hA 0 q (by omega) d1
          have h4 : L.getD j default < L.getD 0 default := by omega
          have := hmono j 0 hj c1 h4
          omega
        · omega
    · have h3 := d3 i h1 h2
      obtain ⟨j, hj, hjv⟩ := hidx i h2
      have h4 := hmono p j c1 hj (by omega)
      have := c3 j h4 hj
      omega
  rw [e, e', place_uniq hpl hq']
theorem mx_le {a b a' b' : Int} (h1 : a ≤ a') (h2 : b ≤ b') : mx a b ≤ mx a' b' := by unfold mx; split <;> split <;> omega
theorem map_getD {α β : Type} [Inhabited α] [Inhabited β] {l : List α} {f : α → β} {i : Nat} (h : i < l.length) : (l.map f).getD i default = f (l.getD i default) := by
  rw [List.getD_eq_getElem?_getD, List.getElem?_map, getD_some h]; rfl
theorem at_rng {t : FT} (h : TabOK t) (x y : Int) : 0 ≤ atF t x y ∧ atF t x y ≤ 1073741824 := by
  have hl1 := h.l1
  have hl2 := h.l2
  have hl3 := h.l3
  have p1 := place_rng x (l := t.lv) (by omega)
  have p2 := place_rng y (l := t.inf) (by omega)
  have hr := h.row (i := (placeF t.lv x).toNat) (by omega)
  exact h.cell (i := (placeF t.lv x).toNat) (by omega) (by omega)
theorem cellJ_rng {a b : FT} (ha : TabOK a) (hb : TabOK b) (x y : Int) : 0 ≤ cellJ a b x y ∧ cellJ a b x y ≤ 1073741824 := by
  have h1 := at_rng ha x y
  have h2 := at_rng hb x y
  unfold cellJ mx
  split <;> omega
theorem cellJ_mono {a b : FT} (ha : TabOK a) (hb : TabOK b) {x y x' y' : Int} (h1 : x ≤ x') (h2 : y ≤ y') : cellJ a b x y ≤ cellJ a b x' y' := mx_le (at_mono ha h1 h2) (at_mono hb h1 h2)
structure JoinOK (a b c : FT) : Prop where
  oa : TabOK a
  ob : TabOK b
  lv : c.lv = bothF a.lv b.lv
  inf : c.inf = bothF a.inf b.inf
  rel : c.rel = (bothF a.lv b.lv).map (rowJ a b (bothF a.inf b.inf))
  n1 : (bothF a.lv b.lv).length ≤ 20
  n2 : (bothF a.inf b.inf).length ≤ 20
theorem rng_of {l : List Int} {most : Int} (h : ∀ i, i < l.length → 0 ≤ l.getD i default ∧ l.getD i default ≤ most) : ∀ x ∈ l, 0 ≤ x ∧ x ≤ most := fun x hx => by
  obtain ⟨i, hi, rfl⟩ := List.getElem_of_mem hx
  have := h i hi
  rw [List.getD_eq_getElem?_getD, List.getElem?_eq_getElem hi] at this
  exact this
theorem both_pos {l m : List Int} (h : 0 < l.length) : 0 < (bothF l m).length :=
  List.length_pos_of_mem ((both_mem l m _).2 (.inl (getD_mem h)))
theorem JoinOK.check {a b c : FT} (h : JoinOK a b c) : checkF c = 0 := by
  have a1 := h.oa.l1
  have a2 := h.oa.l2
  have p1 := both_pos (l := a.lv) (m := b.lv) (by omega)
  have p2 := both_pos (l := a.inf) (m := b.inf) (by omega)
  have n1 := h.n1
  have n2 := h.n2
  have s1 := both_asc a.lv b.lv
  have s2 := both_asc a.inf b.inf
  have r1 := asc_rise (most := 16777216) s1 fun x hx => by
    rcases (both_mem _ _ x).1 hx with h1 | h1
    · exact rng_of (fun i hi => h.oa.lvr hi) x h1
    · exact rng_of (fun i hi => h.ob.lvr hi) x h1
  have r2 := asc_rise (most := 1073741824) s2 fun x hx => by
    rcases (both_mem _ _ x).1 hx with h1 | h1
    · exact rng_of (fun i hi => h.oa.infr hi) x h1
    · exact rng_of (fun i hi => h.ob.infr hi) x h1
  have e1 := h.lv
  have e2 := h.inf
  have e3 := h.rel
  obtain ⟨clv, cinf, crel⟩ := c
  dsimp only at e1 e2 e3
  subst e1; subst e2; subst e3
  have oa := h.oa
  have ob := h.ob
  clear h
  generalize bothF a.lv b.lv = L at *
  generalize bothF a.inf b.inf = I at *
  have z3 : scan (relE ⟨L, I, L.map (rowJ a b I)⟩) 0 (L.map (rowJ a b I)).length = 0 := scan_none fun i _ hi => by
    rw [List.length_map] at hi
    have hrow : (L.map (rowJ a b I)).getD i default = rowJ a b I (L.getD i default) := map_getD (by omega)
    unfold relE rowF
    dsimp only
    rw [hrow]
    have hlen : (rowJ a b I (L.getD i default)).length = I.length := by unfold rowJ; rw [List.length_map]
    rw [if_neg (by omega)]
    refine scan_none fun k _ hk => ?_
    rw [hlen] at hk
    have hc : ∀ j, j < I.length → ∀ v, (rowJ a b I v).getD j default = cellJ a b v (I.getD j default) := fun j hj v => map_getD hj
    have hund : under (rowJ a b I (L.getD i default)) (abO (L.map (rowJ a b I)) i) k = false := by
      unfold under
      cases i with
      | zero => rfl
      | succ i =>
        show decide ((rowJ a b I (L.getD (i + 1) default)).getD k default < ((L.map (rowJ a b I)).getD i default).getD k default) = false
        rw [map_getD (by omega), hc k (by omega), hc k (by omega)]
        have hlt := s1 i (i + 1) (by omega) (by omega)
        have := cellJ_mono oa ob (x := L.getD i default) (x' := L.getD (i + 1) default) (y := I.getD k default) (y' := I.getD k default) (by omega) (Int.le_refl _)
        exact decide_eq_false (by omega)
    have hr := cellJ_rng oa ob (L.getD i default) (I.getD k default)
    unfold rowE
    rw [hund, hc k (by omega), if_neg (by omega), if_neg]
    rintro (⟨h1, h2⟩ | h)
    · rw [hc (k - 1) (by omega)] at h2
      have hlt := s2 (k - 1) k (by omega) (by omega)
      have := cellJ_mono oa ob (x := L.getD i default) (x' := L.getD i default) (y := I.getD (k - 1) default) (y' := I.getD k default) (Int.le_refl _) (by omega)
      omega
    · cases h
  have z1 : scan (riseE L 16777216) 0 L.length = 0 := scan_none fun k _ hk => r1 k (by omega)
  have z2 : scan (riseE I 1073741824) 0 I.length = 0 := scan_none fun k _ hk => r2 k (by omega)
  unfold checkF
  dsimp only
  rw [if_neg (by omega), z1, z2, z3]
  simp
theorem JoinOK.at_ {a b c : FT} (h : JoinOK a b c) (x y : Int) : atF c x y = mx (atF a x y) (atF b x y) := by
  have a1 := h.oa.l1
  have a2 := h.oa.l2
  have b1 := h.ob.l1
  have b2 := h.ob.l2
  obtain ⟨p, hp, hpa⟩ := place_at (both_asc a.lv b.lv) (both_pos (by omega)) x
  obtain ⟨q, hq, hqa⟩ := place_at (both_asc a.inf b.inf) (both_pos (by omega)) y
  have s1 := place_sub (rise_asc h.oa.r1) (both_asc a.lv b.lv) (fun z hz => (both_mem _ _ z).2 (.inl hz)) (by omega) x hpa
  have s2 := place_sub (rise_asc h.oa.r2) (both_asc a.inf b.inf) (fun z hz => (both_mem _ _ z).2 (.inl hz)) (by omega) y hqa
  have s3 := place_sub (rise_asc h.ob.r1) (both_asc a.lv b.lv) (fun z hz => (both_mem _ _ z).2 (.inr hz)) (by omega) x hpa
  have s4 := place_sub (rise_asc h.ob.r2) (both_asc a.inf b.inf) (fun z hz => (both_mem _ _ z).2 (.inr hz)) (by omega) y hqa
  have e : atF c x y = cellJ a b ((bothF a.lv b.lv).getD p default) ((bothF a.inf b.inf).getD q default) := by
    unfold atF
    rw [h.lv, h.inf, h.rel, hp, hq, Int.toNat_natCast, Int.toNat_natCast, map_getD hpa.1]
    exact map_getD hqa.1
  rw [e]
  unfold cellJ atF
  rw [s1, s2, s3, s4]
theorem join_ok {a b : FT} (ha : checkF a = 0) (hb : checkF b = 0) (h1 : a.lv.length + b.lv.length ≤ 20) (h2 : a.inf.length + b.inf.length ≤ 20) : (joinF a b).2 = 0 ∧ JoinOK a b (joinF a b).1 := by
  have n1 := both_len a.lv b.lv
  have n2 := both_len a.inf b.inf
  unfold joinF
  rw [if_neg (by omega), if_neg (by omega), if_neg (by omega)]
  exact ⟨rfl, check_ok ha, check_ok hb, rfl, rfl, rfl, by omega, by omega⟩
end Pv
end Go.Proofs.YtcfcmafmdpbjoaaDoor

/- LAW 24: joined tables release the greater (FloodtableJoins). -/
set_option linter.unusedSimpArgs false
set_option linter.unusedVariables false
namespace Go.Proofs.YtcfcmafmdpbjoaaDoor
namespace Pv
def c7L2 : C := (.seq (.reg [⟨(some 61), 976, none, .bi false .lss (.t 60) (.t 59)⟩])
  (.seq (.cond (.t 61) .skip (.exit 2))
  (.seq (.block 3 (.seq (.reg [⟨(some 62), 992, none, .ia 1 (.t 58) (.t 60)⟩,
    ⟨(some 63), 1008, none, .ld 1 false (.t 62)⟩,
    ⟨(some 15), 240, none, .mv (.t 63)⟩])
  (.seq (.reg [⟨(some 65), 1040, none, .ld 3 true (.t 8)⟩,
    ⟨(some 66), 1056, none, .mv (.t 13)⟩,
    ⟨(some 67), 1072, none, .mv (.t 15)⟩,
    ⟨(some 68), 1088, none, .call (.c (.fn (.func 19) [] [])) [(.t 65), (.t 66), (.t 67)]⟩,
    ⟨(some 64), 1024, none, .mv (.t 68)⟩,
    ⟨(some 69), 1104, none, .ex (.t 64) 0⟩,
    ⟨(some 70), 1120, none, .ex (.t 64) 1⟩,
    ⟨(some 16), 256, none, .mv (.t 69)⟩,
    ⟨(some 17), 272, none, .mv (.t 70)⟩])
  (.seq (.reg [⟨(some 72), 1152, none, .ld 3 true (.t 9)⟩,
    ⟨(some 73), 1168, none, .mv (.t 13)⟩,
    ⟨(some 74), 1184, none, .mv (.t 15)⟩,
    ⟨(some 75), 1200, none, .call (.c (.fn (.func 19) [] [])) [(.t 72), (.t 73), (.t 74)]⟩,
    ⟨(some 71), 1136, none, .mv (.t 75)⟩,
    ⟨(some 76), 1216, none, .ex (.t 71) 0⟩,
    ⟨(some 77), 1232, none, .ex (.t 71) 1⟩,
    ⟨(some 18), 288, none, .mv (.t 76)⟩,
    ⟨(some 19), 304, none, .mv (.t 77)⟩])
  (.seq (.reg [⟨(some 79), 1264, none, .ld 3 true (.t 10)⟩,
    ⟨(some 80), 1280, none, .mv (.t 13)⟩,
    ⟨(some 81), 1296, none, .mv (.t 15)⟩,
    ⟨(some 82), 1312, none, .call (.c (.fn (.func 19) [] [])) [(.t 79), (.t 80), (.t 81)]⟩,
    ⟨(some 78), 1248, none, .mv (.t 82)⟩,
    ⟨(some 83), 1328, none, .ex (.t 78) 0⟩,
    ⟨(some 84), 1344, none, .ex (.t 78) 1⟩,
    ⟨(some 20), 320, none, .mv (.t 83)⟩,
    ⟨(some 21), 336, none, .mv (.t 84)⟩])
  (.seq (.reg [⟨(some 85), 1360, none, .mv (.t 21)⟩,
    ⟨(some 86), 1376, none, .bi false .neq (.t 85) (.c (.int .i64 0))⟩,
    ⟨(some 87), 1392, none, .mv (.t 86)⟩,
    ⟨(some 88), 1408, (some (87, false)), .mv (.t 20)⟩,
    ⟨(some 89), 1424, (some (87, false)), .mv (.t 16)⟩,
    ⟨(some 90), 1440, (some (87, false)), .mv (.t 18)⟩,
    ⟨(some 91), 1456, (some (87, false)), .mx [(.t 89), (.t 90)]⟩,
    ⟨(some 92), 1472, (some (87, false)), .bi false .neq (.t 88) (.t 91)⟩,
    ⟨(some 93), 1488, none, .pick (.t 87) (.c (.bool true)) (.t 92)⟩])
  (.cond (.t 93) (.seq (.reg [⟨(some 6), 96, none, .mv (.c (.bool false))⟩])
  .ret) .skip)))))))
  (.reg [⟨(some 94), 1504, none, .bi false .add (.t 60) (.c (.int .i64 1))⟩,
    ⟨(some 60), 960, none, .mv (.t 94)⟩]))))
def c7L1 : C := (.seq (.reg [⟨(some 50), 800, none, .bi false .lss (.t 49) (.t 48)⟩])
  (.seq (.cond (.t 50) .skip (.exit 0))
  (.seq (.block 1 (.seq (.reg [⟨(some 51), 816, none, .ia 1 (.t 47) (.t 49)⟩,
    ⟨(some 52), 832, none, .ld 1 false (.t 51)⟩,
    ⟨(some 13), 208, none, .mv (.t 52)⟩])
  (.seq (.reg [⟨(some 53), 848, none, .mv (.t 2)⟩,
    ⟨(some 54), 864, none, .cv false .i64 (.t 53)⟩,
    ⟨(some 55), 880, none, .mv (.t 2)⟩,
    ⟨(some 56), 896, none, .cv false .i64 (.t 55)⟩,
    ⟨(some 57), 912, none, .bi false .rem (.t 56) (.c (.int .i64 20))⟩,
    ⟨(some 58), 928, none, .bs 3 1 [(.t 54), (.t 57)]⟩,
    ⟨(some 59), 944, none, .len (.t 58)⟩,
    ⟨(some 60), 960, none, .mv (.c (.int .i64 0))⟩])
  (.block 2 (.loop c7L2)))))
  (.reg [⟨(some 95), 1520, none, .bi false .add (.t 49) (.c (.int .i64 1))⟩,
    ⟨(some 49), 784, none, .mv (.t 95)⟩]))))
def c7 : C := (.seq (.reg [⟨(some 6), 96, none, .mv (.c (.bool false))⟩])
  (.seq (.seq (.reg [⟨(some 22), 352, none, .call (.c (.fn (.func 8) [] [])) []⟩,
    ⟨(some 23), 368, none, .un false .not (.t 22)⟩])
  (.cond (.t 23) (.seq (.reg [⟨(some 6), 96, none, .mv (.c (.bool false))⟩])
  .ret) .skip))
  (.seq (.seq (.reg [⟨(some 24), 384, none, .mv (.t 0)⟩,
    ⟨(some 25), 400, none, .call (.c (.fn (.func 9) [] [])) [(.t 24)]⟩,
    ⟨(some 26), 416, none, .un false .not (.t 25)⟩])
  (.cond (.t 26) (.seq (.reg [⟨(some 6), 96, none, .mv (.c (.bool true))⟩])
  .ret) .skip))
  (.seq (.reg [⟨(some 27), 432, none, .mv (.t 0)⟩,
    ⟨(some 28), 448, none, .call (.c (.fn (.func 12) [] [])) [(.t 27)]⟩,
    ⟨(some 7), 112, none, .mv (.t 28)⟩])
  (.seq (.reg [⟨(some 29), 464, none, .mv (.t 7)⟩,
    ⟨(some 30), 480, none, .call (.c (.fn (.func 11) [] [])) [(.t 29)]⟩,
    ⟨(some 31), 496, none, .mv (.t 7)⟩,
    ⟨(some 32), 512, none, .call (.c (.fn (.func 11) [] [])) [(.t 31)]⟩,
    ⟨(some 8), 128, none, .al [(.nil 1), (.nil 1), (.nil 1)]⟩,
    ⟨(some 9), 144, none, .al [(.nil 1), (.nil 1), (.nil 1)]⟩,
    ⟨none, 0, none, .st 3 (.t 8) (.t 30)⟩,
    ⟨none, 0, none, .st 3 (.t 9) (.t 32)⟩])
  (.seq (.reg [⟨(some 34), 544, none, .ld 3 true (.t 8)⟩,
    ⟨(some 35), 560, none, .ld 3 true (.t 9)⟩,
    ⟨(some 36), 576, none, .call (.c (.fn (.func 24) [] [])) [(.t 34), (.t 35)]⟩,
    ⟨(some 33), 528, none, .mv (.t 36)⟩,
    ⟨(some 37), 592, none, .ex (.t 33) 0⟩,
    ⟨(some 38), 608, none, .ex (.t 33) 1⟩,
    ⟨(some 10), 160, none, .al [(.nil 1), (.nil 1), (.nil 1)]⟩,
    ⟨none, 0, none, .st 3 (.t 10) (.t 37)⟩,
    ⟨(some 11), 176, none, .mv (.t 38)⟩])
  (.seq (.seq (.reg [⟨(some 39), 624, none, .mv (.t 11)⟩,
    ⟨(some 40), 640, none, .bi false .neq (.t 39) (.c (.int .i64 0))⟩])
  (.cond (.t 40) (.seq (.reg [⟨(some 6), 96, none, .mv (.c (.bool false))⟩])
  .ret) .skip))
  (.seq (.seq (.reg [⟨(some 41), 656, none, .mv (.t 1)⟩,
    ⟨(some 42), 672, none, .cv false .i64 (.t 41)⟩,
    ⟨(some 43), 688, none, .mv (.t 1)⟩,
    ⟨(some 44), 704, none, .cv false .i64 (.t 43)⟩,
    ⟨(some 45), 720, none, .bi false .rem (.t 44) (.c (.int .i64 60))⟩,
    ⟨(some 46), 736, none, .bi false .add (.c (.int .i64 90)) (.t 45)⟩,
    ⟨(some 47), 752, none, .bs 3 1 [(.t 42), (.t 46)]⟩,
    ⟨(some 48), 768, none, .len (.t 47)⟩,
    ⟨(some 49), 784, none, .mv (.c (.int .i64 0))⟩])
  (.block 0 (.loop c7L1)))
  (.seq (.reg [⟨(some 96), 1536, none, .ld 3 true (.t 10)⟩,
    ⟨(some 97), 1552, none, .call (.c (.fn (.func 22) [] [])) [(.t 96)]⟩,
    ⟨(some 98), 1568, none, .bi false .eql (.t 97) (.c (.int .i64 0))⟩,
    ⟨(some 6), 96, none, .mv (.t 98)⟩])
  .ret)))))))))
theorem fits7 : fits Tryd.prog false Tryd.f7 3 99 [(6, none)] = some c7.er := by kernel_rfl

theorem row_at {up : Option (List Int)} : ∀ (m : Nat) (l : List Int) (d : Dk), (it (cellN up) m (l, d)).2.at_ ≤ d.at_ + m
  | 0, l, d => Nat.le_refl _
  | m + 1, l, d => by
    have h := row_at (up := up) m (l ++ [cellX up (l, d)]) (nxtD d 8)
    have h2 := nxtD_at d 8
    show (it (cellN up) m (cellN up (l, d))).2.at_ ≤ _
    have e : cellN up (l, d) = (l ++ [cellX up (l, d)], nxtD d 8) := rfl
    rw [e]
    omega
theorem rel_at {n : Nat} : ∀ (m : Nat) (rel : List (List Int)) (d : Dk), (it (tabN n) m (rel, d)).2.at_ ≤ d.at_ + m * n
  | 0, rel, d => by show d.at_ ≤ _; omega
  | m + 1, rel, d => by
    have h := rel_at (n := n) m (tabN n (rel, d)).1 (tabN n (rel, d)).2
    have h2 := row_at (up := abO rel rel.length) n [] d
    have e : (tabN n (rel, d)).2.at_ = (it (cellN (abO rel rel.length)) n ([], d)).2.at_ := rfl
    have h3 : (it (tabN n) m (tabN n (rel, d))).2.at_ ≤ (tabN n (rel, d)).2.at_ + m * n := h
    show (it (tabN n) m (tabN n (rel, d))).2.at_ ≤ _
    rw [Nat.add_mul, Nat.one_mul]
    omega
theorem tab_at (d : Dk) : (tabF d).2.at_ ≤ d.at_ + 40 ∧ (tabF d).1.lv.length ≤ 4 ∧ (tabF d).1.inf.length ≤ 4 := by
  have a1 := axisS_at d 90 40
  have a2 := axisS_at (axisS d 90 40).d 0 12
  have h := rel_at (n := (axisS (axisS d 90 40).d 0 12).l.length) (axisS d 90 40).l.length [] (axisS (axisS d 90 40).d 0 12).d
  obtain ⟨e1, e2, e3⟩ := tabF_parts d
  rw [e1, e2]
  have hm : (axisS d 90 40).l.length * (axisS (axisS d 90 40).d 0 12).l.length ≤ 4 * 4 := Nat.mul_le_mul a1.2.2 a2.2.2
  refine ⟨?_, a1.2.2, a2.2.2⟩
  show (it (tabN (axisS (axisS d 90 40).d 0 12).l.length) (axisS d 90 40).l.length ([], (axisS (axisS d 90 40).d 0 12).d)).2.at_ ≤ _
  omega
theorem tab_rows {t : FT} (h : TabOK t) : ∀ i, i < t.rel.length → (t.rel.getD i default).length ≤ 4611686018427387904 := fun i hi => by
  have := h.row hi
  have := h.l2
  omega
theorem rel_ok {t : FT} {x y : Int} (h : checkF t = 0) (h1 : 0 ≤ x ∧ x ≤ 255) (h2 : 0 ≤ y ∧ y ≤ 255) : relF t x y = (atF t x y, 0) := by unfold relF; rw [if_neg (by omega), if_neg (by omega)]
def eT0 (t : FT) : List PV := [.sl 0 1 t.lv.length (fl eInt t.lv), .sl 0 1 t.inf.length (fl eInt t.inf), .sl 0 1 t.rel.length (fl (eIs 0) t.rel)]

set_option maxRecDepth 100000 in
set_option maxHeartbeats 16000000 in
theorem call7 (l : List Int) (level inflow : Int) (h1 : 0 ≤ level ∧ level ≤ 255) (h2 : 0 ≤ inflow ∧ inflow ≤ 255) : PureCall Tryd.prog 7 [.sl 1 1 l.length (fl eInt l), .int .u8 level, .int .u8 inflow] [] ⟨.bool true, [], []⟩ := by
  have m1 : 0 ≤ level.tmod 60 ∧ level.tmod 60 < 60 := ⟨Int.tmod_nonneg _ h1.1, Int.tmod_lt_of_pos _ (by decide)⟩
  have m2 : 0 ≤ inflow.tmod 20 ∧ inflow.tmod 20 < 20 := ⟨Int.tmod_nonneg _ h2.1, Int.tmod_lt_of_pos _ (by decide)⟩
  refine pure_call mix Tryd.func7 fits7 rfl ?_
  conv => whnf
  refine ⟨_, fun _ => call8, ?_⟩
  conv => whnf
  refine ⟨?_, fun h => absurd h Bool.false_ne_true, fun _ => ?_⟩
  · (try conv => whnf)
    (repeat' (first | exact True.intro | exact fun _ h => h | refine inR64_of ?_ ?_ | apply And.intro | refine maxLen_ge ?_)) <;> (first | omega | (dsimp only; omega) | (dsimp only [List.length_cons, List.length_nil]; omega) | (intro hg; rw [hg]; rfl) | (intro hg hh; rw [hg, hh]; rfl) | (intro hg; simp [-List.getD_eq_getElem?_getD, -Int.default_eq_zero] at hg; first | omega | (refine inR64_of ?_ ?_ <;> omega) | (constructor <;> omega)) | (simp [-List.getD_eq_getElem?_getD, -Int.default_eq_zero]; done))
  conv => whnf
  refine ⟨_, fun _ => call9 1 l, ?_⟩
  conv => whnf
  refine ⟨?_, fun hc => ?_, fun hc => ?_⟩
  · (try conv => whnf)
    (repeat' (first | exact True.intro | exact fun _ h => h | refine inR64_of ?_ ?_ | apply And.intro | refine maxLen_ge ?_)) <;> (first | omega | (dsimp only; omega) | (dsimp only [List.length_cons, List.length_nil]; omega) | (intro hg; rw [hg]; rfl) | (intro hg hh; rw [hg, hh]; rfl) | (intro hg; simp [-List.getD_eq_getElem?_getD, -Int.default_eq_zero] at hg; first | omega | (refine inR64_of ?_ ?_ <;> omega) | (constructor <;> omega)) | (simp [-List.getD_eq_getElem?_getD, -Int.default_eq_zero]; done))
  · conv => whnf
    refine ⟨?_, [], ?_⟩
    · (try conv => whnf)
      (repeat' (first | exact True.intro | exact fun _ h => h | refine inR64_of ?_ ?_ | apply And.intro | refine maxLen_ge ?_)) <;> (first | omega | (dsimp only; omega) | (dsimp only [List.length_cons, List.length_nil]; omega) | (intro hg; rw [hg]; rfl) | (intro hg hh; rw [hg, hh]; rfl) | (intro hg; simp [-List.getD_eq_getElem?_getD, -Int.default_eq_zero] at hg; first | omega | (refine inR64_of ?_ ?_ <;> omega) | (constructor <;> omega)) | (simp [-List.getD_eq_getElem?_getD, -Int.default_eq_zero]; done))
    conv => whnf
    refine ⟨rfl, ?_, trivial, trivial⟩
    all_goals repeat' (first | exact True.intro | refine leF_cons rfl ?_ ?_ | refine leS_cons rfl ?_ ?_ | (show PLe _ _ _ _; conv => whnf) | (show SLe _ _ _ _; conv => whnf) | (show PLeL _ _ _ _; conv => whnf) | apply And.intro | rfl | exact Nat.le_refl _ | exact fun _ _ => rfl | exact rowEq0 _ _)
  conv => whnf
  refine ⟨_, fun _ => call_new 1 l, ?_⟩
  conv => whnf
  refine ⟨_, fun _ => call11 ⟨l, 0⟩ (by dsimp only; omega), ?_⟩
  have ha0 := tab_ok ⟨l, 0⟩
  have hat := tab_at ⟨l, 0⟩
  dsimp only at hat
  generalize (tabF ⟨l, 0⟩).2 = D at hat ⊢
  generalize (tabF ⟨l, 0⟩).1 = a at ha0 hat ⊢
  conv => whnf
  refine ⟨_, fun _ => call11 D (by omega), ?_⟩
  have hb0 := tab_ok D
  have hbt := tab_at D
  generalize (tabF D).2 = D2 at hbt ⊢
  generalize (tabF D).1 = b at hb0 hbt ⊢
  have ha := check_ok ha0
  have hb := check_ok hb0
  have a3 := ha.l3
  have b3 := hb.l3
  have a4 := tab_rows ha
  have b4 := tab_rows hb
  conv => whnf
  refine ⟨_, fun _ => PureCall.arg_le (call24 0 0 a b (by omega) (by omega) (by omega) a4 (by omega) (by omega) (by omega) b4) rfl (by
    all_goals repeat' (first | exact True.intro | refine leF_cons rfl ?_ ?_ | refine leS_cons rfl ?_ ?_ | (show PLe _ _ _ _; conv => whnf) | (show SLe _ _ _ _; conv => whnf) | (show PLeL _ _ _ _; conv => whnf) | apply And.intro | rfl | exact Nat.le_refl _ | exact fun _ _ => rfl | exact rowEq0 _ _)
    all_goals first | omega | exact (by decide) | skip), ?_⟩
  obtain ⟨j0, hj⟩ := join_ok ha0 hb0 (by omega) (by omega)
  rw [j0]
  generalize (joinF a b).1 = c at hj ⊢
  have hc0 := hj.check
  have hcc := check_ok hc0
  have c1 := hcc.l1
  have c2 := hcc.l2
  have c3 := hcc.l3
  have c4 := tab_rows hcc
  have hz := fun x y => hj.at_ x y
  conv => whnf
  refine ⟨?_, fun h => absurd h Bool.false_ne_true, fun _ => ?_⟩
  · (try conv => whnf)
    (repeat' (first | exact True.intro | exact fun _ h => h | refine inR64_of ?_ ?_ | apply And.intro | refine maxLen_ge ?_)) <;> (first | omega | (dsimp only; omega) | (dsimp only [List.length_cons, List.length_nil]; omega) | (intro hg; rw [hg]; rfl) | (intro hg hh; rw [hg, hh]; rfl) | (intro hg; simp [-List.getD_eq_getElem?_getD, -Int.default_eq_zero] at hg; first | omega | (refine inR64_of ?_ ?_ <;> omega) | (constructor <;> omega)) | (simp [-List.getD_eq_getElem?_getD, -Int.default_eq_zero]; done))
  conv => whnf
  refine ⟨?_, ?_⟩
  · (try conv => whnf)
    (repeat' (first | exact True.intro | exact fun _ h => h | refine inR64_of ?_ ?_ | apply And.intro | refine maxLen_ge ?_)) <;> (first | omega | (dsimp only; omega) | (dsimp only [List.length_cons, List.length_nil]; omega) | (intro hg; rw [hg]; rfl) | (intro hg hh; rw [hg, hh]; rfl) | (intro hg; simp [-List.getD_eq_getElem?_getD, -Int.default_eq_zero] at hg; first | omega | (refine inR64_of ?_ ?_ <;> omega) | (constructor <;> omega)) | (simp [-List.getD_eq_getElem?_getD, -Int.default_eq_zero]; done))
  refine LSem.loop (n := 99) mix (α := Nat) (fun i => i ≤ 2)
    (fun i => [(2, .int .u8 inflow), (8, .pt 128 0 0), (9, .pt 144 0 0), (10, .pt 160 0 0), (47, .os 752), (48, .int .i64 2), (49, .int .i64 i)])
    (fun i => [(128, .box (eT0 a)), (144, .box (eT0 b)), (160, .box (eT0 c)), (752, .row 0 3 1 2 (fl eInt [level, 90 + level.tmod 60]))]) (fun i => 2 - i) 0 ?_ ?_ ?_
  · exact Nat.zero_le _
  · refine ⟨rfl, rfl, ?_, ?_⟩
    all_goals repeat' (first | exact True.intro | refine leF_cons rfl ?_ ?_ | refine leS_cons rfl ?_ ?_ | (show PLe _ _ _ _; conv => whnf) | (show SLe _ _ _ _; conv => whnf) | (show PLeL _ _ _ _; conv => whnf) | apply And.intro | rfl | exact Nat.le_refl _ | exact fun _ _ => rfl | exact rowEq0 _ _)
    all_goals first | exact rowEq2 rfl rfl | skip
  · intro i hi
    have hji : ((i : Int)).toNat = i := by omega
    conv => whnf
    refine ⟨trivial, fun hc2 => ?_, fun hc2 => ?_⟩
    · replace hc2 := of_decide_eq_true hc2
      have hlt : i < 2 := by
        have h : (i : Int) < 2 := hc2
        omega
      have hv : 0 ≤ [level, 90 + level.tmod 60].getD i default ∧ [level, 90 + level.tmod 60].getD i default ≤ 255 := by
        match i, hlt with
        | 0, _ => exact h1
        | 1, _ => show 0 ≤ 90 + level.tmod 60 ∧ 90 + level.tmod 60 ≤ 255; omega
      conv => whnf
      rw [hji]
      generalize [level, 90 + level.tmod 60].getD i default = v at hv ⊢
      refine ⟨?_, ?_⟩
      · (try conv => whnf)
        (repeat' (first | exact True.intro | exact fun _ h => h | refine inR64_of ?_ ?_ | apply And.intro | refine maxLen_ge ?_)) <;> (first | omega | (dsimp only; omega) | (dsimp only [List.length_cons, List.length_nil]; omega) | (intro hg; rw [hg]; rfl) | (intro hg hh; rw [hg, hh]; rfl) | (intro hg; simp [-List.getD_eq_getElem?_getD, -Int.default_eq_zero] at hg; first | omega | (refine inR64_of ?_ ?_ <;> omega) | (constructor <;> omega)) | (simp [-List.getD_eq_getElem?_getD, -Int.default_eq_zero]; done))
      refine LSem.loop (n := 99) mix (α := Nat) (fun k => k ≤ 2)
        (fun k => [(2, .int .u8 inflow), (8, .pt 128 0 0), (9, .pt 144 0 0), (10, .pt 160 0 0), (13, .int .i64 v), (47, .os 752), (48, .int .i64 2), (49, .int .i64 i), (58, .os 928), (59, .int .i64 2), (60, .int .i64 k)])
        (fun k => [(128, .box (eT0 a)), (144, .box (eT0 b)), (160, .box (eT0 c)), (752, .row 0 3 1 2 (fl eInt [level, 90 + level.tmod 60])), (928, .row 0 3 1 2 (fl eInt [inflow, inflow.tmod 20]))]) (fun k => 2 - k) 0 ?_ ?_ ?_
      · exact Nat.zero_le _
      · refine ⟨rfl, rfl, ?_, ?_⟩
        all_goals repeat' (first | exact True.intro | refine leF_cons rfl ?_ ?_ | refine leS_cons rfl ?_ ?_ | (show PLe _ _ _ _; conv => whnf) | (show SLe _ _ _ _; conv => whnf) | (show PLeL _ _ _ _; conv => whnf) | apply And.intro | rfl | exact Nat.le_refl _ | exact fun _ _ => rfl | exact rowEq0 _ _)
        all_goals first | exact rowEq2 rfl rfl | skip
      · intro k hk
        have hjk : ((k : Int)).toNat = k := by omega
        conv => whnf
        refine ⟨trivial, fun hc3 => ?_, fun hc3 => ?_⟩
        · replace hc3 := of_decide_eq_true hc3
          have hlt2 : k < 2 := by
            have h : (k : Int) < 2 := hc3
            omega
          have hq : 0 ≤ [inflow, inflow.tmod 20].getD k default ∧ [inflow, inflow.tmod 20].getD k default ≤ 255 := by
            match k, hlt2 with
            | 0, _ => exact h2
            | 1, _ => show 0 ≤ inflow.tmod 20 ∧ inflow.tmod 20 ≤ 255; omega
          conv => whnf
          rw [hjk]
          generalize [inflow, inflow.tmod 20].getD k default = u at hq ⊢
          refine ⟨_, fun _ => call19 0 0 a v u (by omega) (by omega) (by omega) a4, ?_⟩
          rw [rel_ok ha0 hv hq]
          conv => whnf
          refine ⟨_, fun _ => call19 0 0 b v u (by omega) (by omega) (by omega) b4, ?_⟩
          rw [rel_ok hb0 hv hq]
          conv => whnf
          refine ⟨_, fun _ => call19 0 0 c v u (by omega) (by omega) (by omega) c4, ?_⟩
          rw [rel_ok hc0 hv hq, hz v u]
          generalize atF a v u = xa
          generalize atF b v u = xb
          conv => whnf
          refine ⟨?_, fun h => ?_, fun _ => ?_⟩
          · (try conv => whnf)
            (repeat' (first | exact True.intro | exact fun _ h => h | refine inR64_of ?_ ?_ | apply And.intro | refine maxLen_ge ?_)) <;> (first | omega | (dsimp only; omega) | (dsimp only [List.length_cons, List.length_nil]; omega) | (intro hg; rw [hg]; rfl) | (intro hg hh; rw [hg, hh]; rfl) | (intro hg; simp [-List.getD_eq_getElem?_getD, -Int.default_eq_zero] at hg; first | omega | (refine inR64_of ?_ ?_ <;> omega) | (constructor <;> omega)) | (simp [-List.getD_eq_getElem?_getD, -Int.default_eq_zero]; done))
          · exfalso
            revert h
            unfold mx
            simp
          conv => whnf
          refine ⟨?_, k + 1, hlt2, ?_, rfl, rfl, ?_, ?_⟩
          · (try conv => whnf)
            (repeat' (first | exact True.intro | exact fun _ h => h | refine inR64_of ?_ ?_ | apply And.intro | refine maxLen_ge ?_)) <;> (first | omega | (dsimp only; omega) | (dsimp only [List.length_cons, List.length_nil]; omega) | (intro hg; rw [hg]; rfl) | (intro hg hh; rw [hg, hh]; rfl) | (intro hg; simp [-List.getD_eq_getElem?_getD, -Int.default_eq_zero] at hg; first | omega | (refine inR64_of ?_ ?_ <;> omega) | (constructor <;> omega)) | (simp [-List.getD_eq_getElem?_getD, -Int.default_eq_zero]; done))
          · omega
          all_goals repeat' (first | exact True.intro | refine leF_cons rfl ?_ ?_ | refine leS_cons rfl ?_ ?_ | (show PLe _ _ _ _; conv => whnf) | (show SLe _ _ _ _; conv => whnf) | (show PLeL _ _ _ _; conv => whnf) | apply And.intro | rfl | exact Nat.le_refl _ | exact fun _ _ => rfl | exact rowEq0 _ _)
          all_goals first | omega | skip
        · replace hc3 := of_decide_eq_false hc3
          conv => whnf
          refine ⟨?_, i + 1, hlt, ?_, rfl, rfl, ?_, ?_⟩
          · (try conv => whnf)
            (repeat' (first | exact True.intro | exact fun _ h => h | refine inR64_of ?_ ?_ | apply And.intro | refine maxLen_ge ?_)) <;> (first | omega | (dsimp only; omega) | (dsimp only [List.length_cons, List.length_nil]; omega) | (intro hg; rw [hg]; rfl) | (intro hg hh; rw [hg, hh]; rfl) | (intro hg; simp [-List.getD_eq_getElem?_getD, -Int.default_eq_zero] at hg; first | omega | (refine inR64_of ?_ ?_ <;> omega) | (constructor <;> omega)) | (simp [-List.getD_eq_getElem?_getD, -Int.default_eq_zero]; done))
          · omega
          all_goals repeat' (first | exact True.intro | refine leF_cons rfl ?_ ?_ | refine leS_cons rfl ?_ ?_ | (show PLe _ _ _ _; conv => whnf) | (show SLe _ _ _ _; conv => whnf) | (show PLeL _ _ _ _; conv => whnf) | apply And.intro | rfl | exact Nat.le_refl _ | exact fun _ _ => rfl | exact rowEq0 _ _)
          all_goals first | omega | skip
    · replace hc2 := of_decide_eq_false hc2
      conv => whnf
      refine ⟨_, fun _ => PureCall.arg_le (call22 1 0 c (by omega) (by omega) (by omega) c4) rfl (by
        all_goals repeat' (first | exact True.intro | refine leF_cons rfl ?_ ?_ | refine leS_cons rfl ?_ ?_ | (show PLe _ _ _ _; conv => whnf) | (show SLe _ _ _ _; conv => whnf) | (show PLeL _ _ _ _; conv => whnf) | apply And.intro | rfl | exact Nat.le_refl _ | exact fun _ _ => rfl | exact rowEq0 _ _)
        all_goals first | omega | exact (by decide) | skip), ?_⟩
      rw [hc0]
      conv => whnf
      refine ⟨?_, [], ?_⟩
      · (try conv => whnf)
        (repeat' (first | exact True.intro | exact fun _ h => h | refine inR64_of ?_ ?_ | apply And.intro | refine maxLen_ge ?_)) <;> (first | omega | (dsimp only; omega) | (dsimp only [List.length_cons, List.length_nil]; omega) | (intro hg; rw [hg]; rfl) | (intro hg hh; rw [hg, hh]; rfl) | (intro hg; simp [-List.getD_eq_getElem?_getD, -Int.default_eq_zero] at hg; first | omega | (refine inR64_of ?_ ?_ <;> omega) | (constructor <;> omega)) | (simp [-List.getD_eq_getElem?_getD, -Int.default_eq_zero]; done))
      conv => whnf
      refine ⟨rfl, ?_, trivial, trivial⟩
      all_goals repeat' (first | exact True.intro | refine leF_cons rfl ?_ ?_ | refine leS_cons rfl ?_ ?_ | (show PLe _ _ _ _; conv => whnf) | (show SLe _ _ _ _; conv => whnf) | (show PLeL _ _ _ _; conv => whnf) | apply And.intro | rfl | exact Nat.le_refl _ | exact fun _ _ => rfl | exact rowEq0 _ _)
end Pv
end Go.Proofs.YtcfcmafmdpbjoaaDoor

/- LAW 24, THE ROWS: what the rows' premises on package variables give. -/
set_option linter.unusedSimpArgs false
set_option linter.unusedVariables false
namespace Go.Proofs.YtcfcmafmdpbjoaaDoor
open Go.ChangeShapes Go.WideShapes Go.ChangeAt Go.RowKit

theorem Tryd.own : ownKnob Tryd.prog.godebug = none := by kernel_rfl
theorem Tryd.laidOut : laidOutB Tryd.prog = true := by kernel_rfl
def lists : List (String × DataW Unit) := [("math/bits.deBruijn32tab", Rows.laid_math_bits_deBruijn32tab), ("math/bits.deBruijn64tab", Rows.laid_math_bits_deBruijn64tab), ("internal/strconv.uint64pow10", Rows.laid_internal_strconv_uint64pow10), ("unicode/utf8.acceptRanges", Rows.laid_unicode_utf8_acceptRanges), ("unicode/utf8.first", Rows.laid_unicode_utf8_first)]

/-- A law's contract where the listed tables are known and the world is shaped. -/
theorem returns_door {H : Type} {enc : TypeId × Value → H} {a : Assume} {C : Checked} {os : Os} {f : FuncId} {fn : Func} {s : ChangeSpec} {conds : List PathCond} {apart fresh handsOn again : Bool} {X : World → Array Value → Prop}
    (hX : ∀ (w w' : World) (args : Array Value), w.heap = w'.heap → X w args → X w' args)
    (own : ownKnob C.prog.godebug = none) (started : os.Started) (noInit : C.prog.inits.idxOf? f = none) (hfn : C.prog.funcs[f]? = some fn)
    (witness : ∃ (w : World) (tape : Tape) (i : Input), w.os = os ∧ (w.forCall tape i).Shaped C.prog ∧ i.vars = [] ∧ Input.okWide C.prog (w.forCall tape i) .any w.heap.size f i ∧
      ((s.pre enc C.prog fn conds apart (w.forCall tape i).memory i.args ∧ X (w.forCall tape i).memory i.args) ∧ sizedMet enc C.prog fn (OpenSpec.ofChange s) apart (w.forCall tape i).memory i.args) ∧ a.holds C.prog (lone (Frame.enter C.prog f i.args .normal) [] (w.forCall tape i)))
    (law : ∀ (W : World) (base : Nat) (args : Array Value) (ds gs : List (DataW H)) (before : List MemPlace), (∀ (j : Nat) t v, fn.params[j]? = some t → args[j]? = some v → Value.okWide C.prog W .any base t v) →
      DataW.Whole enc C.prog fn.params.toList s.vars apart W args.toList ds gs before → (DataW.weightsEach C.prog (fn.params.toList ++ s.plain.varTypes C.prog) (ds ++ gs)).all (· ≤ reachBytes) = true → X W args → W.ShapedOpen C.prog →
      Calls C.prog f args W fun e W' => ∃ v, e = .returned v ∧ s.post enc C.prog fn apart fresh handsOn again W args v W') :
    ReturnsInHanded a C os f .any (fun w args => (s.pre enc C.prog fn conds apart w args ∧ X w args) ∧ sizedMet enc C.prog fn (OpenSpec.ofChange s) apart w args) (s.post enc C.prog fn apart fresh handsOn again) := by
  refine returnsInHanded_of_calls own started noInit witness fun w tape i _ hsh _ hok hpre _ => ?_
  obtain ⟨_, _, _, g, hg, _, _, _, _, hval⟩ := hok
  cases Option.some.inj (hg.symm.trans hfn)
  obtain ⟨⟨⟨ds, gs, before, hw, _⟩, hx⟩, hz⟩ := hpre
  refine (law (w.forCall tape i) w.heap.size i.args ds gs before hval (DataW.Whole.of_heap (w' := w.forCall tape i) (by rfl) hw) (hz.weights hw) (hX _ _ _ (by rfl) hx) hsh).mono ?_
  rintro e W' ⟨v, rfl, hp⟩
  exact ChangeSpec.post_blind hp

theorem tab_of {W : World} (h : laidMetH Tryd.prog lists W) : Lib.TabIs Tryd.prog W "internal/strconv.uint64pow10" .u64 Lib.pow10Tab := by
  have h1 := (laidMetH_iff.1 h).1
  have h2 := h1.filter fun x => x.1 == "internal/strconv.uint64pow10"
  have e : ((lists.filter fun x => x.2.handleName?.isNone).filter fun x => x.1 == "internal/strconv.uint64pow10") = [("internal/strconv.uint64pow10", Lib.tabData .u64 Lib.pow10Tab)] := by kernel_rfl
  rw [e] at h2
  exact Lib.tabIs_of_head (g := 1) (t := 127) (e := 113) (n := 20) (by kernel_rfl) (by kernel_rfl) (by kernel_rfl) (by kernel_rfl) (by kernel_rfl) (by kernel_rfl) h2
theorem glob_of {W : World} (h : laidMetH Tryd.prog lists W) (hs : W.ShapedOpen Tryd.prog) : Pv.GlobOK W := fun b p hb => by
  match b, hb with
  | 0, hb =>
    injection hb with hb; subst hb
    obtain ⟨m, hm⟩ := cell_of_shapedOpen_int (P := Tryd.prog) (w := W) (g := 0) (t := 3) (zero := #[.int .i64 0]) (k := .i64) hs (of_decide_eq_true (by kernel_rfl)) (by kernel_rfl) rfl (by kernel_rfl) (by kernel_rfl) (by kernel_rfl)
    unfold World.cell? at hm
    split at hm
    · rename_i cs T fz hc
      exact ⟨_, hc, cs, T, fz, m, rfl, by simpa using hm⟩
    · cases hm
  | 1, hb =>
    injection hb with hb; subst hb
    have ht := tab_of h
    unfold Lib.TabIs World.var? at ht
    rw [show Tryd.prog.globalNamed "internal/strconv.uint64pow10" = some 1 from by kernel_rfl] at ht
    simp only [Option.bind_some] at ht
    split at ht
    · rename_i cs T fz hc
      simp only [Option.some.injEq] at ht
      subst ht
      exact ⟨_, hc, T, fz, rfl⟩
    · cases ht
  | b + 2, hb => cases hb
end Go.Proofs.YtcfcmafmdpbjoaaDoor

set_option linter.unusedSimpArgs false
set_option linter.unusedVariables false
namespace Go.Proofs.YtcfcmafmdpbjoaaDoor
open Go.ChangeShapes Go.WideShapes Go.ChangeAt Go.RowKit

namespace Pv
theorem dec_int : ∀ ps, ShL [.int .i64] ps → ∃ x : Int, ps = eInt x ∧ inR .i64 x := fun ps h => by
  obtain ⟨p, qs, rfl, h1, h⟩ := shl_cons h
  cases shl_nil h
  obtain ⟨a, rfl, ha⟩ := sh_int h1
  exact ⟨a, rfl, ha⟩
theorem of_wfk {k : IntKind} {n : Int} (h : (Lit.int k n).wf = true) : inR k n := by
  simp only [Lit.wf, Bool.and_eq_true, decide_eq_true_eq] at h; exact h
theorem u16_of {n : Int} (h : inR .u16 n) : 0 ≤ n ∧ n ≤ 65535 := h
theorem u8_of {n : Int} (h : inR .u8 n) : 0 ≤ n ∧ n ≤ 255 := h
end Pv

set_option maxRecDepth 100000 in
theorem liftedFloodtableJoins (os : Os) (started : os.Started) (H : Type) (enc : TypeId × Value → H) :
    ReturnsInHanded {} Tryd.checked os 7 .any (fun w args => (Rows.floodtableJoinsSpec.pre enc Tryd.prog Tryd.f7 Rows.floodtableJoinsRow.domain false w args ∧ laidMetH Tryd.prog lists w) ∧ sizedMet enc Tryd.prog Tryd.f7 (OpenSpec.ofChange Rows.floodtableJoinsSpec) false w args) (Rows.floodtableJoinsSpec.post enc Tryd.prog Tryd.f7 false true false false) := by
  refine returns_door (C := Tryd.checked) (X := fun w _ => laidMetH Tryd.prog lists w) (fun _ _ _ hh h => h.of_heap hh) Tryd.own started (by kernel_rfl) Tryd.func7
    (ChangeSpec.witness_shaped (enc := enc) (C := Tryd.checked) (os := os) (X := fun w _ => laidMetH Tryd.prog lists w) false (World.laidAll Tryd.prog os lists) #[.slice none 0 0, .int .u8 0, .int .u8 0] 8 (World.laidAll_os _ _ _)
      (World.shaped_of_ZipB (by kernel_rfl) (by kernel_rfl)) (by kernel_rfl) (by kernel_rfl) (by kernel_rfl)
      (by rw [MakeChecks.laidMetH_plain _ _ _ (by kernel_rfl)]; exact laidMet_laidAll _ (by kernel_rfl) (by kernel_rfl))) ?_
  intro W base args ds gs before hval0 hW hsz0 hL hS
  have hval : ∀ (j : Nat) t v, Tryd.f7.params[j]? = some t → args[j]? = some v → Value.okWide Tryd.prog W .any base t v := hval0
  have hW' := hW
  obtain ⟨p, q, hA0, hV, rfl, hfz, hnd⟩ := hW
  have hA : DataW.TrodAll enc Tryd.prog W 0 (fun _ => true) true Tryd.f7.params.toList args.toList ds p := hA0
  rw [Tryd.params7] at hA hval
  have hgl : Pv.GlobOK W := glob_of hL hS
  have hsz : (DataW.weightsEach Tryd.prog (Tryd.f7.params.toList ++ (Rows.floodtableJoinsSpec).plain.varTypes Tryd.prog) (ds ++ gs)).all (· ≤ reachBytes) = true := hsz0
  rw [Tryd.params7] at hsz
  obtain ⟨v0, vs0, d0, ds0, p0, q0, hargs, rfl, rfl, h0, r0⟩ := trodAll_cons hA
  obtain ⟨v1, vs1, d1, ds1, p1, q1, rfl, rfl, rfl, h1, r1⟩ := trodAll_cons r0
  obtain ⟨v2, vs2, d2, ds2, p2, q2, rfl, rfl, rfl, h2, r2⟩ := trodAll_cons r1
  obtain ⟨rfl, rfl, rfl⟩ := trodAll_nil r2
  obtain rfl : args = #[v0, v1, v2] := by cases args; simp_all
  obtain ⟨rfl, rfl⟩ := trodVars_none hV
  have k0 := h0
  have lt0 : ∀ x ∈ p0, x.block < W.heap.size := by obtain ⟨m, hm⟩ := k0; exact DataW.trod_lt m _ _ _ hm
  obtain ⟨a0, len0, cap0, rfl⟩ := okWide_slice Tryd.underlying22 (hval 0 22 v0 rfl rfl)
  obtain ⟨_, s0, g0⟩ := Pv.arg_one (m := 9) (s := .sl [.int .i64]) (by kernel_rfl) rfl k0
  obtain ⟨l0, e0, _, i0⟩ := Pv.sh_list hgl Pv.eInt (Pv.inR .i64) Pv.dec_int s0 g0
  obtain ⟨l1, rfl, rfl, rfl, w1⟩ := open_int Tryd.underlying5 (hval 1 5 v1 rfl rfl) h1
  have i1 := Pv.of_wfk w1
  have e1 : Pv.Rep (Pv.cx0 W) Pv.gh0 W (.int .u8 l1) (.int .u8 l1) := .int _ _
  obtain ⟨l2, rfl, rfl, rfl, w2⟩ := open_int Tryd.underlying5 (hval 2 5 v2 rfl rfl) h2
  have i2 := Pv.of_wfk w2
  have e2 : Pv.Rep (Pv.cx0 W) Pv.gh0 W (.int .u8 l2) (.int .u8 l2) := .int _ _
  clear hA0 hval0
  refine (Pv.law_calls hgl (Pv.call7 l0 l1 l2 (Pv.u8_of i1) (Pv.u8_of i2)) (Pv.RepL.cons_ e0 (Pv.RepL.cons_ e1 (Pv.RepL.cons_ e2 Pv.RepL.nil_)))).mono fun e W' ⟨he, bel⟩ => ?_
  subst he
  exact ⟨_, rfl, _, _, _, [], _, [], hW', trodAll_mk1 (shut_bool Tryd.underlying4 _), (trodAll_cons_mk (Below.trod Tryd.laidOut (by kernel_rfl) (of_decide_eq_true (by kernel_rfl)) k0 bel lt0) (trodAll_cons_mk (shut_int Tryd.underlying5 w1) (trodAll_cons_mk (shut_int Tryd.underlying5 w2) trodAll_mk0))), rfl, bel.frame _, fun h => by cases h⟩

/-- The row of FloodtableJoins. -/
theorem FloodtableJoins_row : Rows.FloodtableJoinsSaid :=
  OpenClaim.holds_of_wide 7 Tryd.f7 rfl rfl rfl rfl rfl rfl rfl ⟨rfl, rfl, rfl, rfl, rfl⟩ rfl rfl rfl rfl rfl (by kernel_rfl) Tryd.func7 (by kernel_rfl)
    (of_decide_eq_true (by kernel_rfl)) (by unfold Func.isWrapper; first | (rw [if_pos (by decide +kernel)]; kernel_rfl) | (rw [if_neg (by decide +kernel)]; exact ⟨rfl, rfl⟩))
    (fun os started H enc _ => liftedFloodtableJoins os started H enc)
/-- FloodtableJoins: the given statement. -/
theorem FloodtableJoins_holds : Rows.FloodtableJoinsCardSaid :=
  Claim7.holds_tied_plain_at .later [] [.data, .data, .data, .data, .pinned] true (true, "3937ca1b52c62e205c1e10e3e2bda9a3a11ee05418c7664ceaa241be95be7432") false FloodtableJoins_row (fun _ h => by cases h) (by kernel_rfl) (fun _ h => by cases h) floodtableJoins_row_tie rfl ⟨rfl, rfl⟩ (by kernel_rfl) rfl
    (fun f fn hf hfn => by
      obtain rfl : f = 7 := Option.some.inj ((show Tryd.prog.funcNamed "hydrocascade/hydrocascadelaw24.FloodtableJoins" = some 7 by kernel_rfl).symm.trans hf) |>.symm
      obtain rfl : fn = Tryd.f7 := (Option.some.inj (Tryd.func7.symm.trans hfn)).symm
      exact ⟨by kernel_rfl, fun j t ht => by
        rw [Tryd.params7] at ht
        have hm : t ∈ [22, 5, 5] := by simpa using Array.mem_of_getElem? ht
        have hall : ([22, 5, 5].all fun u => !Tryd.prog.wantsStandIn u) = true := by kernel_rfl
        exact (show Tryd.prog.wantsStandIn t = false by simpa using List.all_eq_true.1 hall t hm)⟩)
    (by kernel_rfl)
end Go.Proofs.YtcfcmafmdpbjoaaDoor
