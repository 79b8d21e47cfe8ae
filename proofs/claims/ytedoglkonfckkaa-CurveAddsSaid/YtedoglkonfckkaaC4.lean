/- LAW 02, THE WALKS, 4: curves that are made of a deck; the example. -/
import Derived.Test.YtedoglkonfckkaaC3
set_option linter.unusedSimpArgs false
set_option linter.unusedVariables false
namespace Go.Proofs.Ytedoglkonfckkaa
namespace Pv
def c9L1 : C := (.seq (.seq (.reg [⟨(some 24), 384, none, .mv (.t 15)⟩,
    ⟨(some 25), 400, none, .bi false .gtr (.t 24) (.c (.int .i64 0))⟩])
  (.cond (.t 25) .skip (.exit 0)))
  (.seq (.block 1 (.seq (.reg [⟨(some 28), 448, none, .mv (.t 1)⟩,
    ⟨(some 29), 464, none, .bi false .add (.t 28) (.c (.int .i64 1))⟩,
    ⟨(some 30), 480, none, .mv (.t 0)⟩,
    ⟨(some 31), 496, none, .mv (.t 3)⟩,
    ⟨(some 32), 512, none, .call (.c (.fn (.func 10) [] [])) [(.t 30), (.t 31)]⟩,
    ⟨(some 33), 528, none, .bi false .add (.t 29) (.t 32)⟩,
    ⟨(some 34), 544, none, .mv (.t 2)⟩,
    ⟨(some 35), 560, none, .mv (.t 13)⟩,
    ⟨(some 36), 576, none, .bi false .add (.t 34) (.t 35)⟩,
    ⟨(some 37), 592, none, .mv (.t 0)⟩,
    ⟨(some 38), 608, none, .mv (.t 4)⟩,
    ⟨(some 39), 624, none, .call (.c (.fn (.func 10) [] [])) [(.t 37), (.t 38)]⟩,
    ⟨(some 40), 640, none, .bi false .add (.t 36) (.t 39)⟩,
    ⟨(some 1), 16, none, .mv (.t 33)⟩,
    ⟨(some 2), 32, none, .mv (.t 40)⟩])
  (.reg [⟨(some 41), 656, none, .mv (.t 14)⟩,
    ⟨(some 42), 672, none, .mv (.t 1)⟩,
    ⟨(some 43), 688, none, .mv (.t 2)⟩,
    ⟨(some 44), 704, none, .bd [(.int .i64 0), (.int .i64 0)] [(0, 1, (.t 42)), (1, 1, (.t 43))]⟩,
    ⟨(some 45), 720, none, .bs 35 2 [(.t 44)]⟩,
    ⟨(some 46), 736, none, .app 35 2 16 (.t 41) (.t 45)⟩,
    ⟨(some 14), 224, none, .mv (.t 46)⟩])))
  (.reg [⟨(some 26), 416, none, .mv (.t 15)⟩,
    ⟨(some 27), 432, none, .bi false .sub (.t 26) (.c (.int .i64 1))⟩,
    ⟨(some 15), 240, none, .mv (.t 27)⟩])))
def c9 : C := (.seq (.reg [⟨(some 12), 192, none, .mv (.c (.nil 2))⟩])
  (.seq (.reg [⟨(some 13), 208, none, .mv (.c (.int .i64 0))⟩])
  (.seq (.seq (.reg [⟨(some 16), 256, none, .mv (.t 5)⟩])
  (.cond (.t 16) (.reg [⟨(some 13), 208, none, .mv (.c (.int .i64 1))⟩]) .skip))
  (.seq (.reg [⟨(some 17), 272, none, .mv (.t 1)⟩,
    ⟨(some 18), 288, none, .mv (.t 2)⟩,
    ⟨(some 19), 304, none, .bd [(.int .i64 0), (.int .i64 0)] [(0, 1, (.t 17)), (1, 1, (.t 18))]⟩,
    ⟨(some 20), 320, none, .bs 35 2 [(.t 19)]⟩,
    ⟨(some 14), 224, none, .mv (.t 20)⟩])
  (.seq (.seq (.reg [⟨(some 21), 336, none, .mv (.t 0)⟩,
    ⟨(some 22), 352, none, .call (.c (.fn (.func 10) [] [])) [(.t 21), (.c (.int .i64 4))]⟩,
    ⟨(some 23), 368, none, .bi false .add (.c (.int .i64 1)) (.t 22)⟩,
    ⟨(some 15), 240, none, .mv (.t 23)⟩])
  (.block 0 (.loop c9L1)))
  (.seq (.reg [⟨(some 47), 752, none, .mv (.t 14)⟩,
    ⟨(some 12), 192, none, .mv (.t 47)⟩])
  .ret))))))
theorem fits9 : fits Try.prog false Try.f9 6 48 [(12, none)] = some c9.er := by kernel_rfl
def c15 : C := (.seq (.reg [⟨(some 0), 0, none, .mv (.c (.bool false))⟩])
  (.seq (.reg [⟨(some 10), 160, none, .bd [(.int .i64 0), (.int .i64 0)] []⟩,
    ⟨(some 11), 176, none, .bd [(.int .i64 0), (.int .i64 0)] [(0, 1, (.c (.int .i64 3))), (1, 1, (.c (.int .i64 10)))]⟩,
    ⟨(some 12), 192, none, .bs 35 2 [(.t 10), (.t 11)]⟩,
    ⟨(some 1), 16, none, .mv (.t 12)⟩])
  (.seq (.reg [⟨(some 14), 224, none, .mv (.t 1)⟩,
    ⟨(some 15), 240, none, .call (.c (.fn (.func 12) [] [])) [(.t 14), (.c (.int .i64 1))]⟩,
    ⟨(some 13), 208, none, .mv (.t 15)⟩,
    ⟨(some 16), 256, none, .ex (.t 13) 0⟩,
    ⟨(some 17), 272, none, .ex (.t 13) 1⟩,
    ⟨(some 2), 32, none, .mv (.t 16)⟩,
    ⟨(some 3), 48, none, .mv (.t 17)⟩])
  (.seq (.reg [⟨(some 19), 304, none, .mv (.t 1)⟩,
    ⟨(some 20), 320, none, .call (.c (.fn (.func 13) [] [])) [(.t 19), (.c (.int .i64 4))]⟩,
    ⟨(some 18), 288, none, .mv (.t 20)⟩,
    ⟨(some 21), 336, none, .ex (.t 18) 0⟩,
    ⟨(some 22), 352, none, .ex (.t 18) 1⟩,
    ⟨(some 23), 368, none, .ex (.t 18) 2⟩,
    ⟨(some 4), 64, none, .mv (.t 21)⟩,
    ⟨(some 5), 80, none, .mv (.t 22)⟩,
    ⟨(some 6), 96, none, .mv (.t 23)⟩])
  (.seq (.reg [⟨(some 25), 400, none, .mv (.t 1)⟩,
    ⟨(some 26), 416, none, .call (.c (.fn (.func 14) [] [])) [(.t 25), (.c (.int .i64 3))]⟩,
    ⟨(some 24), 384, none, .mv (.t 26)⟩,
    ⟨(some 27), 432, none, .ex (.t 24) 0⟩,
    ⟨(some 28), 448, none, .ex (.t 24) 1⟩,
    ⟨(some 29), 464, none, .ex (.t 24) 2⟩,
    ⟨(some 7), 112, none, .mv (.t 27)⟩,
    ⟨(some 8), 128, none, .mv (.t 28)⟩,
    ⟨(some 9), 144, none, .mv (.t 29)⟩])
  (.seq (.reg [⟨(some 30), 480, none, .mv (.t 3)⟩,
    ⟨(some 31), 496, none, .mv (.t 6)⟩,
    ⟨(some 32), 512, none, .bi false .add (.t 30) (.t 31)⟩,
    ⟨(some 33), 528, none, .mv (.t 9)⟩,
    ⟨(some 34), 544, none, .bi false .add (.t 32) (.t 33)⟩,
    ⟨(some 35), 560, none, .bi false .eql (.t 34) (.c (.int .i64 0))⟩,
    ⟨(some 36), 576, none, .mv (.t 35)⟩,
    ⟨(some 37), 592, (some (36, true)), .mv (.t 5)⟩,
    ⟨(some 38), 608, none, .pick (.t 36) (.t 37) (.c (.bool false))⟩,
    ⟨(some 39), 624, none, .mv (.t 38)⟩,
    ⟨(some 40), 640, (some (39, true)), .mv (.t 8)⟩,
    ⟨(some 41), 656, none, .pick (.t 39) (.t 40) (.c (.bool false))⟩,
    ⟨(some 42), 672, none, .mv (.t 41)⟩,
    ⟨(some 43), 688, (some (42, true)), .mv (.t 2)⟩,
    ⟨(some 44), 704, (some (42, true)), .bi false .eql (.t 43) (.c (.int .i64 3))⟩,
    ⟨(some 45), 720, none, .pick (.t 42) (.t 44) (.c (.bool false))⟩,
    ⟨(some 46), 736, none, .mv (.t 45)⟩,
    ⟨(some 47), 752, (some (46, true)), .mv (.t 4)⟩,
    ⟨(some 48), 768, (some (46, true)), .bi false .eql (.t 47) (.c (.int .i64 2))⟩,
    ⟨(some 49), 784, none, .pick (.t 46) (.t 48) (.c (.bool false))⟩,
    ⟨(some 50), 800, none, .mv (.t 49)⟩,
    ⟨(some 51), 816, (some (50, true)), .mv (.t 7)⟩,
    ⟨(some 52), 832, (some (50, true)), .bi false .eql (.t 51) (.c (.int .i64 1))⟩,
    ⟨(some 53), 848, none, .pick (.t 50) (.t 52) (.c (.bool false))⟩,
    ⟨(some 0), 0, none, .mv (.t 53)⟩])
  .ret))))))
theorem fits15 : fits Try.prog false Try.f15 0 54 [(0, none)] = some c15.er := by kernel_rfl

theorem fl_one {α : Type} [Inhabited α] (e : α → List PV) (x : α) : RowEq 1 (fun i => [e x].getD i []) (fl e [x]) := fun i hi => by
  have : i = 0 := by omega
  subst this; rfl
theorem fl_two {α : Type} [Inhabited α] (e : α → List PV) (x y : α) : RowEq 2 (fun i => [e x, e y].getD i []) (fl e [x, y]) := fun i hi => by
  rcases (by omega : i = 0 ∨ i = 1) with rfl | rfl <;> rfl

structure Cst where
  L : List Pt
  x : Int
  y : Int
  d : Dk
def crvN (dx dy least : Int) (s : Cst) : Cst := ⟨s.L ++ [⟨s.x + 1 + nxt s.d dx, s.y + least + nxt (nxtD s.d dx) dy⟩], s.x + 1 + nxt s.d dx, s.y + least + nxt (nxtD s.d dx) dy, nxtD (nxtD s.d dx) dy⟩
def crvS (dx dy least : Int) : Nat → Cst → Cst
  | 0, s => s
  | k + 1, s => crvS dx dy least k (crvN dx dy least s)
def curveS (d : Dk) (x y dx dy least : Int) : Cst := crvS dx dy least (1 + nxt d 4).toNat ⟨[⟨x, y⟩], x, y, nxtD d 4⟩

theorem call9 (d : Dk) (x y dx dy : Int) (hd : d.at_ ≤ 1000000) (hx : 0 ≤ x ∧ x ≤ 1000000) (hy : 0 ≤ y ∧ y ≤ 1000000) (hdx : 1 ≤ dx ∧ dx ≤ 1000000) (hdy : 1 ≤ dy ∧ dy ≤ 1000000) :
    PureCall Try.prog 9 [.pt 0 0 0, .int .i64 x, .int .i64 y, .int .i64 dx, .int .i64 dy, .bool false] [.box (eDk 1 d)] ⟨.sl 0 2 (curveS d x y dx dy 0).L.length (fl ePt (curveS d x y dx dy 0).L), [.box (eDk 1 (curveS d x y dx dy 0).d)], []⟩ := by
  refine pure_call mix Try.func9 fits9 rfl ?_
  conv => whnf
  refine ⟨trivial, fun hc => absurd hc (by decide), fun _ => ?_⟩
  conv => whnf
  refine ⟨_, fun _ => call_next 1 d 4 (by omega) (by omega), ?_⟩
  conv => whnf
  have r1 := nxt_lt d (n := 4) (by omega)
  have a1 := nxtD_at d 4
  refine ⟨?_, ?_⟩
  · (try conv => whnf)
    (repeat' (first | exact True.intro | exact fun _ h => h | refine inR64_of ?_ ?_ | apply And.intro | refine maxLen_ge ?_)) <;> (first | omega | (dsimp only; omega) | (dsimp only [List.length_cons, List.length_nil]; omega) | (intro hg; rw [hg]; rfl) | (intro hg hh; rw [hg, hh]; rfl) | (intro hg; simp [-List.getD_eq_getElem?_getD, -Int.default_eq_zero] at hg; first | omega | (refine inR64_of ?_ ?_ <;> omega) | (constructor <;> omega)) | (simp [-List.getD_eq_getElem?_getD, -Int.default_eq_zero]; done))
  refine LSem.loop (n := 48) mix (α := Nat × Cst) (fun s => s.1 ≤ 4 ∧ crvS dx dy 0 s.1 s.2 = curveS d x y dx dy 0 ∧ s.2.d.at_ + 2 * s.1 ≤ 1000020 ∧ s.2.L.length + s.1 ≤ 10 ∧ (0 ≤ s.2.x ∧ s.2.x + 1000001 * s.1 ≤ 5000010) ∧ (0 ≤ s.2.y ∧ s.2.y + 1000001 * s.1 ≤ 5000010))
    (fun s => [(0, .pt 0 0 0), (1, .int .i64 s.2.x), (2, .int .i64 s.2.y), (3, .int .i64 dx), (4, .int .i64 dy), (13, .int .i64 0), (14, .os 320), (15, .int .i64 s.1)])
    (fun s => [(0, .box (eDk 1 s.2.d)), (320, .row 0 35 2 s.2.L.length (fl ePt s.2.L))]) (fun s => s.1) ((1 + nxt d 4).toNat, ⟨[⟨x, y⟩], x, y, nxtD d 4⟩) ?_ ?_ ?_
  · refine ⟨by dsimp only; omega, rfl, ?_, ?_, ?_, ?_⟩
    all_goals (dsimp only [List.length_cons, List.length_nil]; omega)
  · refine ⟨rfl, rfl, ?_, ?_⟩
    all_goals repeat' (first | exact True.intro | refine leF_cons rfl ?_ ?_ | refine leS_cons rfl ?_ ?_ | (show PLe _ _ _ _; conv => whnf) | (show SLe _ _ _ _; conv => whnf) | (show PLeL _ _ _ _; conv => whnf) | apply And.intro | rfl | exact Nat.le_refl _ | exact fun _ _ => rfl | exact rowEq0 _ _)
    · dsimp only; omega
    · exact fl_one ePt ⟨x, y⟩
  · intro s hs
    obtain ⟨h1, h2, h3, h4, h5, h6⟩ := hs
    conv => whnf
    refine ⟨trivial, fun hc => ?_, fun hc => ?_⟩
    · replace hc := of_decide_eq_true hc
      have h0 : 0 < s.1 := by omega
      conv => whnf
      have r2 := nxt_lt s.2.d (n := dx) (by omega)
      have a2 := nxtD_at s.2.d dx
      refine ⟨_, fun _ => call_next 1 s.2.d dx (by omega) (by omega), ?_⟩
      conv => whnf
      have r3 := nxt_lt (nxtD s.2.d dx) (n := dy) (by omega)
      have a3 := nxtD_at (nxtD s.2.d dx) dy
      refine ⟨_, fun _ => call_next 1 (nxtD s.2.d dx) dy (by omega) (by omega), ?_⟩
      conv => whnf
      refine ⟨?_, (s.1 - 1, crvN dx dy 0 s.2), ⟨?_, ?_, ?_, ?_, ?_, ?_⟩, ?_, rfl, rfl, ?_, ?_⟩
      · (try conv => whnf)
        (repeat' (first | exact True.intro | exact fun _ h => h | refine inR64_of ?_ ?_ | apply And.intro | refine maxLen_ge ?_)) <;> (first | omega | (dsimp only; omega) | (dsimp only [List.length_cons, List.length_nil]; omega) | (intro hg; rw [hg]; rfl) | (intro hg hh; rw [hg, hh]; rfl) | (intro hg; simp [-List.getD_eq_getElem?_getD, -Int.default_eq_zero] at hg; first | omega | (refine inR64_of ?_ ?_ <;> omega) | (constructor <;> omega)) | (simp [-List.getD_eq_getElem?_getD, -Int.default_eq_zero]; done))
      · dsimp only; omega
      · rw [← h2]; dsimp only
        rw [show s.1 = (s.1 - 1) + 1 by omega]; rfl
      · dsimp only [crvN]; omega
      · dsimp only [crvN]; rw [List.length_append, List.length_cons, List.length_nil]; omega
      · dsimp only [crvN]; omega
      · dsimp only [crvN]; omega
      · dsimp only; omega
      all_goals repeat' (first | exact True.intro | refine leF_cons rfl ?_ ?_ | refine leS_cons rfl ?_ ?_ | (show PLe _ _ _ _; conv => whnf) | (show SLe _ _ _ _; conv => whnf) | (show PLeL _ _ _ _; conv => whnf) | apply And.intro | rfl | exact Nat.le_refl _ | exact fun _ _ => rfl | exact rowEq0 _ _)
      all_goals (try dsimp only)
      all_goals (try omega)
      · simp [crvN]
      · exact fl_push ePt s.2.L ⟨s.2.x + 1 + nxt s.2.d dx, s.2.y + 0 + nxt (nxtD s.2.d dx) dy⟩
    · replace hc := of_decide_eq_false hc
      rw [show s.1 = 0 by omega] at h2
      rw [← h2]
      conv => whnf
      refine ⟨?_, [], ?_⟩
      · (try conv => whnf)
        (repeat' (first | exact True.intro | exact fun _ h => h | refine inR64_of ?_ ?_ | apply And.intro | refine maxLen_ge ?_)) <;> (first | omega | (dsimp only; omega) | (dsimp only [List.length_cons, List.length_nil]; omega) | (intro hg; rw [hg]; rfl) | (intro hg hh; rw [hg, hh]; rfl) | (intro hg; simp [-List.getD_eq_getElem?_getD, -Int.default_eq_zero] at hg; first | omega | (refine inR64_of ?_ ?_ <;> omega) | (constructor <;> omega)) | (simp [-List.getD_eq_getElem?_getD, -Int.default_eq_zero]; done))
      conv => whnf
      refine ⟨rfl, ?_, ?_, trivial⟩
      all_goals repeat' (first | exact True.intro | refine leF_cons rfl ?_ ?_ | refine leS_cons rfl ?_ ?_ | (show PLe _ _ _ _; conv => whnf) | (show SLe _ _ _ _; conv => whnf) | (show PLeL _ _ _ _; conv => whnf) | apply And.intro | rfl | exact Nat.le_refl _ | exact fun _ _ => rfl | exact rowEq0 _ _)

theorem argSI_le {f : FuncId} {τ z n m : Nat} {fa ga : Nat → List PV} {k : IntKind} {y : Int} {c : CallRes} (h : PureCall Try.prog f [.sl τ z m ga, .int k y] [] c) (h1 : n = m) (h2 : RowEq n fa ga) : PureCall Try.prog f [.sl τ z n fa, .int k y] [] c := by
  refine PureCall.arg_le h rfl ?_
  conv => whnf
  refine ⟨?_, ?_⟩
  · conv => whnf
    exact ⟨Nat.le_refl _, rfl, h1, h2⟩
  · conv => whnf
    refine ⟨?_, trivial⟩
    conv => whnf
    exact ⟨rfl, rfl⟩

theorem call15 : PureCall Try.prog 15 [] [] ⟨.bool true, [], []⟩ := by
  refine pure_call mix Try.func15 fits15 rfl ?_
  conv => whnf
  have e : RowEq 2 (fun i => [[PV.int .i64 0, PV.int .i64 0], [PV.int .i64 3, PV.int .i64 10]].getD i []) (fl ePt [⟨0, 0⟩, ⟨3, 10⟩]) := fl_two ePt ⟨0, 0⟩ ⟨3, 10⟩
  refine ⟨_, fun _ => argSI_le (call12 2 [⟨0, 0⟩, ⟨3, 10⟩] 1) rfl e, ?_⟩
  rw [show atC [⟨0, 0⟩, ⟨3, 10⟩] 1 = (3, 0) by decide +kernel]
  conv => whnf
  refine ⟨_, fun _ => argSI_le (call13 2 [⟨0, 0⟩, ⟨3, 10⟩] 4) rfl e, ?_⟩
  rw [show firstR [⟨0, 0⟩, ⟨3, 10⟩] 4 = (2, true, 0) by decide +kernel]
  conv => whnf
  refine ⟨_, fun _ => argSI_le (call14 2 [⟨0, 0⟩, ⟨3, 10⟩] 3) rfl e, ?_⟩
  rw [show lastR [⟨0, 0⟩, ⟨3, 10⟩] 3 = (1, true, 0) by decide +kernel]
  conv => whnf
  refine ⟨?_, [], ?_⟩
  · (try conv => whnf)
    (repeat' (first | exact True.intro | exact fun _ h => h | refine inR64_of ?_ ?_ | apply And.intro | refine maxLen_ge ?_)) <;> (first | omega | (dsimp only; omega) | (dsimp only [List.length_cons, List.length_nil]; omega) | (intro hg; rw [hg]; rfl) | (intro hg hh; rw [hg, hh]; rfl) | (intro hg; simp [-List.getD_eq_getElem?_getD, -Int.default_eq_zero] at hg; first | omega | (refine inR64_of ?_ ?_ <;> omega) | (constructor <;> omega)) | (simp [-List.getD_eq_getElem?_getD, -Int.default_eq_zero]; done))
  conv => whnf
  refine ⟨rfl, ?_, trivial, trivial⟩
  all_goals repeat' (first | exact True.intro | refine leF_cons rfl ?_ ?_ | refine leS_cons rfl ?_ ?_ | (show PLe _ _ _ _; conv => whnf) | (show SLe _ _ _ _; conv => whnf) | (show PLeL _ _ _ _; conv => whnf) | apply And.intro | rfl | exact Nat.le_refl _ | exact fun _ _ => rfl | exact rowEq0 _ _)
end Pv
end Go.Proofs.Ytedoglkonfckkaa
