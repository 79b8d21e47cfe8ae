/- LAW 08, THE WALKS, 4: values that are made of a deck; the example. -/
import Derived.Test.YtogoplhikmmggaaQ3
set_option linter.unusedSimpArgs false
set_option linter.unusedVariables false
namespace Go.Proofs.Ytogoplhikmmggaa
namespace Pv
def c12L1 : C := (.seq (.seq (.reg [⟨(some 13), 208, none, .mv (.t 8)⟩,
    ⟨(some 14), 224, none, .bi false .gtr (.t 13) (.c (.int .i64 0))⟩])
  (.cond (.t 14) .skip (.exit 0)))
  (.seq (.block 1 (.reg [⟨(some 17), 272, none, .mv (.t 6)⟩,
    ⟨(some 18), 288, none, .mv (.t 0)⟩,
    ⟨(some 19), 304, none, .call (.c (.fn (.func 18) [] [])) [(.t 18), (.c (.int .i64 60))]⟩,
    ⟨(some 20), 320, none, .bs 3 1 [(.t 19)]⟩,
    ⟨(some 21), 336, none, .app 3 1 8 (.t 17) (.t 20)⟩,
    ⟨(some 22), 352, none, .mv (.t 7)⟩,
    ⟨(some 23), 368, none, .mv (.t 0)⟩,
    ⟨(some 24), 384, none, .call (.c (.fn (.func 18) [] [])) [(.t 23), (.c (.int .i64 3))]⟩,
    ⟨(some 25), 400, none, .bi false .gtr (.t 24) (.c (.int .i64 0))⟩,
    ⟨(some 26), 416, none, .bs 4 1 [(.t 25)]⟩,
    ⟨(some 27), 432, none, .app 4 1 1 (.t 22) (.t 26)⟩,
    ⟨(some 6), 96, none, .mv (.t 21)⟩,
    ⟨(some 7), 112, none, .mv (.t 27)⟩]))
  (.reg [⟨(some 15), 240, none, .mv (.t 8)⟩,
    ⟨(some 16), 256, none, .bi false .sub (.t 15) (.c (.int .i64 1))⟩,
    ⟨(some 8), 128, none, .mv (.t 16)⟩])))
def c12 : C := (.seq (.reg [⟨(some 4), 64, none, .mv (.c (.nil 1))⟩,
    ⟨(some 5), 80, none, .mv (.c (.nil 1))⟩])
  (.seq (.reg [⟨(some 6), 96, none, .mv (.c (.nil 1))⟩])
  (.seq (.reg [⟨(some 7), 112, none, .mv (.c (.nil 1))⟩])
  (.seq (.seq (.reg [⟨(some 9), 144, none, .mv (.t 0)⟩,
    ⟨(some 10), 160, none, .mv (.t 1)⟩,
    ⟨(some 11), 176, none, .bi false .add (.t 10) (.c (.int .i64 1))⟩,
    ⟨(some 12), 192, none, .call (.c (.fn (.func 18) [] [])) [(.t 9), (.t 11)]⟩,
    ⟨(some 8), 128, none, .mv (.t 12)⟩])
  (.block 0 (.loop c12L1)))
  (.seq (.reg [⟨(some 28), 448, none, .mv (.t 6)⟩,
    ⟨(some 29), 464, none, .mv (.t 7)⟩,
    ⟨(some 4), 64, none, .mv (.t 28)⟩,
    ⟨(some 5), 80, none, .mv (.t 29)⟩])
  .ret)))))
theorem fits12 : fits Try.prog false Try.f12 2 30 [(4, none), (5, none)] = some c12.er := by kernel_rfl
def c14 : C := (.seq (.reg [⟨(some 0), 0, none, .mv (.c (.bool false))⟩])
  (.seq (.reg [⟨(some 6), 96, none, .bs 3 1 [(.c (.int .i64 5)), (.c (.int .i64 9)), (.c (.int .i64 7)), (.c (.int .i64 100))]⟩,
    ⟨(some 7), 112, none, .bs 4 1 [(.c (.bool true)), (.c (.bool true)), (.c (.bool true)), (.c (.bool true))]⟩,
    ⟨(some 8), 128, none, .call (.c (.fn (.func 13) [] [])) [(.t 6), (.t 7)]⟩,
    ⟨(some 5), 80, none, .mv (.t 8)⟩,
    ⟨(some 9), 144, none, .ex (.t 5) 0⟩,
    ⟨(some 10), 160, none, .ex (.t 5) 1⟩,
    ⟨(some 1), 16, none, .mv (.t 9)⟩,
    ⟨(some 2), 32, none, .mv (.t 10)⟩])
  (.seq (.reg [⟨(some 12), 192, none, .bs 3 1 [(.c (.int .i64 10)), (.c (.int .i64 0)), (.c (.int .i64 20))]⟩,
    ⟨(some 13), 208, none, .bs 4 1 [(.c (.bool true)), (.c (.bool false)), (.c (.bool true))]⟩,
    ⟨(some 14), 224, none, .call (.c (.fn (.func 16) [] [])) [(.t 12), (.t 13), (.c (.int .i64 3))]⟩,
    ⟨(some 11), 176, none, .mv (.t 14)⟩,
    ⟨(some 15), 240, none, .ex (.t 11) 0⟩,
    ⟨(some 16), 256, none, .ex (.t 11) 1⟩,
    ⟨(some 3), 48, none, .mv (.t 15)⟩,
    ⟨(some 4), 64, none, .mv (.t 16)⟩])
  (.seq (.reg [⟨(some 17), 272, none, .mv (.t 2)⟩,
    ⟨(some 18), 288, none, .mv (.t 17)⟩,
    ⟨(some 19), 304, (some (18, true)), .mv (.t 1)⟩,
    ⟨(some 20), 320, (some (18, true)), .bi false .eql (.t 19) (.c (.int .i64 7))⟩,
    ⟨(some 21), 336, none, .pick (.t 18) (.t 20) (.c (.bool false))⟩,
    ⟨(some 22), 352, none, .mv (.t 21)⟩,
    ⟨(some 23), 368, (some (22, true)), .mv (.t 4)⟩,
    ⟨(some 24), 384, (some (22, true)), .bi false .eql (.t 23) (.c (.int .i64 0))⟩,
    ⟨(some 25), 400, none, .pick (.t 22) (.t 24) (.c (.bool false))⟩,
    ⟨(some 26), 416, none, .mv (.t 25)⟩,
    ⟨(some 27), 432, (some (26, true)), .mv (.t 3)⟩,
    ⟨(some 28), 448, (some (26, true)), .bs 3 1 [(.c (.int .i64 10)), (.c (.int .i64 15)), (.c (.int .i64 20))]⟩,
    ⟨(some 29), 464, (some (26, true)), .call (.c (.fn (.func 17) [] [])) [(.t 27), (.t 28)]⟩,
    ⟨(some 30), 480, none, .pick (.t 26) (.t 29) (.c (.bool false))⟩,
    ⟨(some 0), 0, none, .mv (.t 30)⟩])
  .ret))))
theorem fits14 : fits Try.prog false Try.f14 0 31 [(0, none)] = some c14.er := by kernel_rfl

structure Gst where
  v : List Int
  g : List Bool
  d : Dk
def gdN (s : Gst) : Gst := ⟨s.v ++ [nxt s.d 60], s.g ++ [decide (0 < nxt (nxtD s.d 60) 3)], nxtD (nxtD s.d 60) 3⟩
def gds : Nat → Gst → Gst
  | 0, s => s
  | k + 1, s => gds k (gdN s)
def goodsS (d : Dk) (most : Int) : Gst := gds (nxt d (most + 1)).toNat ⟨[], [], nxtD d (most + 1)⟩
theorem gds_props : ∀ (k : Nat) (s : Gst), s.v.length = s.g.length → (∀ x ∈ s.v, 0 ≤ x ∧ x < 60) → (gds k s).v.length = (gds k s).g.length ∧ (gds k s).v.length = s.v.length + k ∧ (∀ x ∈ (gds k s).v, 0 ≤ x ∧ x < 60) ∧ (gds k s).d.at_ ≤ s.d.at_ + 2 * k
  | 0, s, h1, h2 => ⟨h1, rfl, h2, Nat.le_refl _⟩
  | k + 1, s, h1, h2 => by
    have r1 := nxt_lt s.d (n := 60) (by omega)
    have a1 := nxtD_at s.d 60
    have a2 := nxtD_at (nxtD s.d 60) 3
    obtain ⟨b1, b2, b3, b4⟩ := gds_props k (gdN s) (by simp [gdN, h1]) (fun x hx => by
      rcases List.mem_append.1 hx with hx | hx
      · exact h2 x hx
      · rw [List.mem_singleton.1 hx]; omega)
    have hv : (gdN s).v.length = s.v.length + 1 := by simp [gdN]
    have hd : (gdN s).d = nxtD (nxtD s.d 60) 3 := rfl
    rw [hd] at b4
    refine ⟨b1, by show (gds k (gdN s)).v.length = _; omega, b3, by show (gds k (gdN s)).d.at_ ≤ _; omega⟩
theorem goods_props (d : Dk) {most : Int} (h : 0 ≤ most ∧ most ≤ 1000) : (goodsS d most).v.length = (goodsS d most).g.length ∧ ((goodsS d most).v.length : Int) ≤ most ∧ (∀ x ∈ (goodsS d most).v, 0 ≤ x ∧ x < 60) ∧ (goodsS d most).d.at_ ≤ d.at_ + 1 + 2 * most.toNat := by
  have r := nxt_lt d (n := most + 1) (by omega)
  have a := nxtD_at d (most + 1)
  obtain ⟨b1, b2, b3, b4⟩ := gds_props (nxt d (most + 1)).toNat ⟨[], [], nxtD d (most + 1)⟩ rfl (fun x hx => by cases hx)
  dsimp only at b2 b4
  refine ⟨b1, ?_, b3, ?_⟩
  · show ((gds _ _).v.length : Int) ≤ most
    rw [b2]; simp; omega
  · show (gds _ _).d.at_ ≤ _; omega

set_option maxRecDepth 100000 in
set_option maxHeartbeats 4000000 in
theorem call12 (d : Dk) (most : Int) (hd : d.at_ ≤ 1000000) (hm : 0 ≤ most ∧ most ≤ 1000) : PureCall Try.prog 12 [.pt 0 0 0, .int .i64 most] [.box (eDk 1 d)]
    ⟨.tup [.sl 0 1 (goodsS d most).v.length (fl eInt (goodsS d most).v), .sl 0 1 (goodsS d most).g.length (fl eBool (goodsS d most).g)], [.box (eDk 1 (goodsS d most).d)], []⟩ := by
  refine pure_call mix Try.func12 fits12 rfl ?_
  conv => whnf
  refine ⟨_, fun _ => call_next 1 d (most + 1) (by omega) (by omega), ?_⟩
  conv => whnf
  have r1 := nxt_lt d (n := most + 1) (by omega)
  have a1 := nxtD_at d (most + 1)
  refine ⟨?_, ?_⟩
  · (try conv => whnf)
    (repeat' (first | exact True.intro | exact fun _ h => h | refine inR64_of ?_ ?_ | apply And.intro | refine maxLen_ge ?_)) <;> (first | omega | (dsimp only; omega) | (dsimp only [List.length_cons, List.length_nil]; omega) | (intro hg; rw [hg]; rfl) | (intro hg hh; rw [hg, hh]; rfl) | (intro hg; simp [-List.getD_eq_getElem?_getD, -Int.default_eq_zero] at hg; first | omega | (refine inR64_of ?_ ?_ <;> omega) | (constructor <;> omega)) | (simp [-List.getD_eq_getElem?_getD, -Int.default_eq_zero]; done))
  refine LSem.adopt 6 1000000 3 1 1 rfl rfl ?_
  refine LSem.adopt 7 1000001 4 1 1 rfl rfl ?_
  refine LSem.loop (n := 30) mix (α := Nat × Gst) (fun s => s.1 ≤ 1000 ∧ gds s.1 s.2 = goodsS d most ∧ s.2.d.at_ + 2 * s.1 ≤ 1003000 ∧ s.2.v.length + s.1 ≤ 1000 ∧ s.2.g.length + s.1 ≤ 1000)
    (fun s => [(0, .pt 0 0 0), (6, .os 1000000), (7, .os 1000001), (8, .int .i64 s.1)])
    (fun s => [(0, .box (eDk 1 s.2.d)), (1000000, .row 0 3 1 s.2.v.length (fl eInt s.2.v)), (1000001, .row 0 4 1 s.2.g.length (fl eBool s.2.g))]) (fun s => s.1) ((nxt d (most + 1)).toNat, ⟨[], [], nxtD d (most + 1)⟩) ?_ ?_ ?_
  · refine ⟨by dsimp only; omega, rfl, by dsimp only; omega, ?_, ?_⟩
    all_goals (dsimp only [List.length_nil]; omega)
  · refine ⟨rfl, rfl, ?_, ?_⟩
    all_goals repeat' (first | exact True.intro | refine leF_cons rfl ?_ ?_ | refine leS_cons rfl ?_ ?_ | (show PLe _ _ _ _; conv => whnf) | (show SLe _ _ _ _; conv => whnf) | (show PLeL _ _ _ _; conv => whnf) | apply And.intro | rfl | exact Nat.le_refl _ | exact fun _ _ => rfl | exact rowEq0 _ _)
    all_goals (dsimp only; omega)
  · intro s hs
    obtain ⟨h1, h2, h3, h4, h5⟩ := hs
    conv => whnf
    refine ⟨trivial, fun hc => ?_, fun hc => ?_⟩
    · replace hc := of_decide_eq_true hc
      have h0 : 0 < s.1 := by omega
      have a2 := nxtD_at s.2.d 60
      have a3 := nxtD_at (nxtD s.2.d 60) 3
      conv => whnf
      refine ⟨_, fun _ => call_next 1 s.2.d 60 (by omega) (by omega), ?_⟩
      conv => whnf
      refine ⟨_, fun _ => call_next 1 (nxtD s.2.d 60) 3 (by omega) (by omega), ?_⟩
      conv => whnf
      refine ⟨?_, (s.1 - 1, gdN s.2), ⟨?_, ?_, ?_, ?_, ?_⟩, ?_, rfl, rfl, ?_, ?_⟩
      · (try conv => whnf)
        (repeat' (first | exact True.intro | exact fun _ h => h | refine inR64_of ?_ ?_ | apply And.intro | refine maxLen_ge ?_)) <;> (first | omega | (dsimp only; omega) | (dsimp only [List.length_cons, List.length_nil]; omega) | (intro hg; rw [hg]; rfl) | (intro hg hh; rw [hg, hh]; rfl) | (intro hg; simp [-List.getD_eq_getElem?_getD, -Int.default_eq_zero] at hg; first | omega | (refine inR64_of ?_ ?_ <;> omega) | (constructor <;> omega)) | (simp [-List.getD_eq_getElem?_getD, -Int.default_eq_zero]; done))
      · dsimp only; omega
      · rw [← h2]; dsimp only
        rw [show s.1 = (s.1 - 1) + 1 by omega]; rfl
      · dsimp only [gdN]; omega
      · dsimp only [gdN]; rw [List.length_append, List.length_cons, List.length_nil]; omega
      · dsimp only [gdN]; rw [List.length_append, List.length_cons, List.length_nil]; omega
      · dsimp only; omega
      all_goals repeat' (first | exact True.intro | refine leF_cons rfl ?_ ?_ | refine leS_cons rfl ?_ ?_ | (show PLe _ _ _ _; conv => whnf) | (show SLe _ _ _ _; conv => whnf) | (show PLeL _ _ _ _; conv => whnf) | apply And.intro | rfl | exact Nat.le_refl _ | exact fun _ _ => rfl | exact rowEq0 _ _)
      all_goals (try dsimp only)
      all_goals (try omega)
      · simp [gdN]
      · exact fl_push eInt s.2.v _
      · simp [gdN]
      · exact fl_push eBool s.2.g _
    · replace hc := of_decide_eq_false hc
      rw [show s.1 = 0 by omega] at h2
      rw [← h2]
      conv => whnf
      refine ⟨?_, [], ?_⟩
      · (try conv => whnf)
        (repeat' (first | exact True.intro | exact fun _ h => h | refine inR64_of ?_ ?_ | apply And.intro | refine maxLen_ge ?_)) <;> (first | omega | (dsimp only; omega) | (dsimp only [List.length_cons, List.length_nil]; omega) | (intro hg; rw [hg]; rfl) | (intro hg hh; rw [hg, hh]; rfl) | (intro hg; simp [-List.getD_eq_getElem?_getD, -Int.default_eq_zero] at hg; first | omega | (refine inR64_of ?_ ?_ <;> omega) | (constructor <;> omega)) | (simp [-List.getD_eq_getElem?_getD, -Int.default_eq_zero]; done))
      conv => whnf
      refine ⟨rfl, ?_, ?_, trivial⟩
      all_goals repeat' (first | exact True.intro | refine leF_cons rfl ?_ ?_ | refine leS_cons rfl ?_ ?_ | (show PLe _ _ _ _; conv => whnf) | (show SLe _ _ _ _; conv => whnf) | (show PLeL _ _ _ _; conv => whnf) | apply And.intro | rfl | exact Nat.le_refl _ | exact fun _ _ => rfl | exact rowEq0 _ _)

theorem fl_lit {α : Type} [Inhabited α] (e : α → List PV) (l : List α) : RowEq l.length (fun i => (l.map e).getD i []) (fl e l) := fun i hi => by
  show (l.map e).getD i [] = e (l.getD i default)
  rw [List.getD_eq_getElem?_getD, List.getElem?_map, getD_some hi]; rfl
theorem sorted_ext : ∀ (l m : List Int), l.Pairwise (· ≤ ·) → m.Pairwise (· ≤ ·) → l.Perm m → l = m
  | [], m, _, _, h => (List.nil_perm.1 h).symm
  | a :: l, [], _, _, h => by have := h.length_eq; simp at this
  | a :: l, b :: m, hl, hm, h => by
    obtain ⟨hl1, hl2⟩ := List.pairwise_cons.1 hl
    obtain ⟨hm1, hm2⟩ := List.pairwise_cons.1 hm
    have hab : a = b := by
      have h1 : a = b ∨ a ∈ m := by simpa using h.mem_iff.1 (show a ∈ a :: l by simp)
      have h2 : b = a ∨ b ∈ l := by simpa using h.mem_iff.2 (show b ∈ b :: m by simp)
      rcases h1 with h1 | h1
      · exact h1
      rcases h2 with h2 | h2
      · exact h2.symm
      have := hm1 a h1
      have := hl1 b h2
      omega
    subst hab
    rw [sorted_ext l m hl2 hm2 (List.Perm.cons_inv h)]
theorem srt_sorted (l : List Int) : (srt l).Pairwise (· ≤ ·) := by
  have := List.pairwise_mergeSort (le := fun x y : Int => decide (x ≤ y)) (fun a b c h1 h2 => by simp at *; omega) (fun a b => by simp; omega) l
  exact this.imp fun h => by simpa using h
theorem srt_perm (l : List Int) : (srt l).Perm l := List.mergeSort_perm ..

theorem call14 : PureCall Try.prog 14 [] [] ⟨.bool true, [], []⟩ := by
  refine pure_call mix Try.func14 fits14 rfl ?_
  have hs : srt [5, 9, 7, 100] = [5, 7, 9, 100] := sorted_ext _ _ (srt_sorted _) (by decide) ((srt_perm _).trans (by decide))
  have hv : voteF [5, 9, 7, 100] [true, true, true, true] = (7, true) := by
    have e : goodL [5, 9, 7, 100] [true, true, true, true] 4 = [5, 9, 7, 100] := by decide
    unfold voteF
    rw [if_neg (by decide), show ([5, 9, 7, 100] : List Int).length = 4 from rfl, e, if_neg (by decide), hs]; rfl
  have hf : fillF [10, 0, 20] [true, false, true] 3 = ([10, 15, 20], 0) := by decide +kernel
  conv => whnf
  refine ⟨_, fun _ => PureCall.arg_le (call13 2 2 [5, 9, 7, 100] [true, true, true, true] (by simp)) rfl (by
    all_goals repeat' (first | exact True.intro | refine leF_cons rfl ?_ ?_ | refine leS_cons rfl ?_ ?_ | (show PLe _ _ _ _; conv => whnf) | (show SLe _ _ _ _; conv => whnf) | (show PLeL _ _ _ _; conv => whnf) | apply And.intro | rfl | exact Nat.le_refl _ | exact fun _ _ => rfl | exact rowEq0 _ _)
    all_goals first | rfl | exact fl_lit eInt [5, 9, 7, 100] | exact fl_lit eBool [true, true, true, true]), ?_⟩
  rw [hv]
  conv => whnf
  refine ⟨_, fun _ => PureCall.arg_le (call16 2 2 [10, 0, 20] [true, false, true] 3 (by simp)) rfl (by
    all_goals repeat' (first | exact True.intro | refine leF_cons rfl ?_ ?_ | refine leS_cons rfl ?_ ?_ | (show PLe _ _ _ _; conv => whnf) | (show SLe _ _ _ _; conv => whnf) | (show PLeL _ _ _ _; conv => whnf) | apply And.intro | rfl | exact Nat.le_refl _ | exact fun _ _ => rfl | exact rowEq0 _ _)
    all_goals first | rfl | exact fl_lit eInt [10, 0, 20] | exact fl_lit eBool [true, false, true]), ?_⟩
  rw [hf]
  conv => whnf
  refine ⟨_, fun _ => PureCall.arg_le (call17 1 2 [10, 15, 20] [10, 15, 20] (by simp)) rfl (by
    all_goals repeat' (first | exact True.intro | refine leF_cons rfl ?_ ?_ | refine leS_cons rfl ?_ ?_ | (show PLe _ _ _ _; conv => whnf) | (show SLe _ _ _ _; conv => whnf) | (show PLeL _ _ _ _; conv => whnf) | apply And.intro | rfl | exact Nat.le_refl _ | exact fun _ _ => rfl | exact rowEq0 _ _)
    all_goals first | rfl | exact fl_lit eInt [10, 15, 20]), ?_⟩
  rw [decide_eq_true rfl]
  conv => whnf
  refine ⟨?_, [], ?_⟩
  · (try conv => whnf)
    (repeat' (first | exact True.intro | exact fun _ h => h | refine inR64_of ?_ ?_ | apply And.intro | refine maxLen_ge ?_)) <;> (first | omega | (dsimp only; omega) | (dsimp only [List.length_cons, List.length_nil]; omega) | (intro hg; rw [hg]; rfl) | (intro hg hh; rw [hg, hh]; rfl) | (intro hg; simp [-List.getD_eq_getElem?_getD, -Int.default_eq_zero] at hg; first | omega | (refine inR64_of ?_ ?_ <;> omega) | (constructor <;> omega)) | (simp [-List.getD_eq_getElem?_getD, -Int.default_eq_zero]; done))
  conv => whnf
  refine ⟨rfl, ?_, trivial, trivial⟩
  all_goals repeat' (first | exact True.intro | refine leF_cons rfl ?_ ?_ | refine leS_cons rfl ?_ ?_ | (show PLe _ _ _ _; conv => whnf) | (show SLe _ _ _ _; conv => whnf) | (show PLeL _ _ _ _; conv => whnf) | apply And.intro | rfl | exact Nat.le_refl _ | exact fun _ _ => rfl | exact rowEq0 _ _)
end Pv
end Go.Proofs.Ytogoplhikmmggaa
