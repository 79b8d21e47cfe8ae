/- LAW 29, THE WALKS, 10: limits, histories and measures that are made of a deck. -/
import Derived.Test.YtiknpkadlckmjaaW11
namespace Go.Proofs.Ytiknpkadlckmjaa
namespace Pv
def c15L1 : C := (.seq (.seq (.reg [⟨(some 22), 352, none, .mv (.t 8)⟩,
    ⟨(some 23), 368, none, .len (.t 22)⟩,
    ⟨(some 24), 384, none, .mv (.t 2)⟩,
    ⟨(some 25), 400, none, .bi false .lss (.t 23) (.t 24)⟩])
  (.cond (.t 25) .skip (.exit 0)))
  (.block 1 (.seq (.drw [⟨(some 26), 416, none, .fa 0 (.t 4)⟩,
    ⟨(some 27), 432, none, .ld 1 false (.t 26)⟩,
    ⟨(some 28), 448, none, .fa 1 (.t 4)⟩,
    ⟨(some 29), 464, none, .ld 1 false (.t 28)⟩,
    ⟨(some 30), 480, none, .mv (.t 7)⟩,
    ⟨(some 31), 496, none, .mv (.t 0)⟩,
    ⟨(some 32), 512, none, .fa 2 (.t 4)⟩,
    ⟨(some 33), 528, none, .ld 1 false (.t 32)⟩,
    ⟨(some 34), 544, none, .bi false .mul (.c (.int .i64 2)) (.t 33)⟩,
    ⟨(some 35), 560, none, .bi false .add (.t 34) (.c (.int .i64 1))⟩,
    ⟨(some 36), 576, none, .call (.c (.fn (.func 12) [] [])) [(.t 31), (.t 35)]⟩,
    ⟨(some 37), 592, none, .bi false .add (.t 30) (.t 36)⟩,
    ⟨(some 38), 608, none, .fa 2 (.t 4)⟩,
    ⟨(some 39), 624, none, .ld 1 false (.t 38)⟩,
    ⟨(some 40), 640, none, .bi false .sub (.t 37) (.t 39)⟩,
    ⟨(some 41), 656, none, .mn [(.t 29), (.t 40)]⟩,
    ⟨(some 42), 672, none, .mx [(.t 27), (.t 41)]⟩,
    ⟨(some 7), 112, none, .mv (.t 42)⟩]
    [(0, 2, 26), (0, 3, 26), (0, 4, 26), (0, 5, 26), (0, 6, 26), (0, 7, 26), (0, 8, 26), (0, 9, 26), (0, 10, 26), (0, 11, 26), (0, 12, 26), (0, 13, 26), (0, 14, 26), (0, 15, 26), (1, 2, 27), (1, 3, 27), (1, 4, 27), (1, 5, 27), (1, 6, 27), (1, 7, 27), (1, 8, 27), (1, 9, 27), (1, 10, 27), (1, 11, 27), (1, 12, 27), (1, 13, 27), (1, 14, 27), (1, 15, 27), (2, 4, 28), (2, 5, 28), (2, 6, 28), (2, 7, 28), (2, 8, 28), (2, 9, 28), (2, 10, 28), (2, 11, 28), (2, 12, 28), (2, 13, 28), (2, 14, 28), (3, 4, 29), (3, 5, 29), (3, 6, 29), (3, 7, 29), (3, 8, 29), (3, 9, 29), (3, 10, 29), (3, 11, 29), (3, 12, 29), (3, 13, 29), (3, 14, 29), (4, 5, 30), (4, 6, 30), (4, 7, 30), (4, 8, 30), (4, 9, 30), (4, 10, 30), (4, 12, 30), (4, 13, 30), (5, 6, 31), (5, 7, 31), (5, 8, 31), (5, 9, 31), (5, 12, 31), (5, 13, 31), (6, 12, 32), (6, 13, 32), (7, 12, 33), (7, 13, 33), (8, 12, 34), (8, 13, 34), (9, 12, 35), (9, 13, 35), (10, 12, 36), (10, 13, 36), (11, 12, 37), (11, 13, 37)])
  (.reg [⟨(some 43), 688, none, .mv (.t 8)⟩,
    ⟨(some 44), 704, none, .mv (.t 7)⟩,
    ⟨(some 45), 720, none, .bs 3 1 [(.t 44)]⟩,
    ⟨(some 46), 736, none, .app 3 1 8 (.t 43) (.t 45)⟩,
    ⟨(some 8), 128, none, .mv (.t 46)⟩]))))
def c15 : C := (.seq (.reg [⟨(some 4), 64, none, .bx 4 (.t 1)⟩,
    ⟨(some 6), 96, none, .mv (.c (.nil 1))⟩])
  (.seq (.drw [⟨(some 9), 144, none, .fa 0 (.t 4)⟩,
    ⟨(some 10), 160, none, .ld 1 false (.t 9)⟩,
    ⟨(some 11), 176, none, .mv (.t 0)⟩,
    ⟨(some 12), 192, none, .fa 1 (.t 4)⟩,
    ⟨(some 13), 208, none, .ld 1 false (.t 12)⟩,
    ⟨(some 14), 224, none, .fa 0 (.t 4)⟩,
    ⟨(some 15), 240, none, .ld 1 false (.t 14)⟩,
    ⟨(some 16), 256, none, .bi false .sub (.t 13) (.t 15)⟩,
    ⟨(some 17), 272, none, .bi false .add (.t 16) (.c (.int .i64 1))⟩,
    ⟨(some 18), 288, none, .call (.c (.fn (.func 12) [] [])) [(.t 11), (.t 17)]⟩,
    ⟨(some 19), 304, none, .bi false .add (.t 10) (.t 18)⟩,
    ⟨(some 7), 112, none, .mv (.t 19)⟩]
    [(0, 2, 9), (0, 3, 9), (0, 4, 9), (0, 5, 9), (0, 6, 9), (0, 7, 9), (0, 8, 9), (0, 9, 9), (1, 2, 10), (1, 3, 10), (1, 4, 10), (1, 5, 10), (1, 6, 10), (1, 7, 10), (1, 8, 10), (1, 9, 10), (2, 3, 11), (2, 4, 11), (2, 5, 11), (2, 6, 11), (2, 7, 11), (2, 8, 11), (3, 5, 12), (3, 6, 12), (4, 5, 13), (4, 6, 13)])
  (.seq (.reg [⟨(some 20), 320, none, .mv (.t 7)⟩,
    ⟨(some 21), 336, none, .bs 3 1 [(.t 20)]⟩,
    ⟨(some 8), 128, none, .mv (.t 21)⟩])
  (.seq (.block 0 (.loop c15L1))
  (.seq (.reg [⟨(some 47), 752, none, .mv (.t 8)⟩,
    ⟨(some 6), 96, none, .mv (.t 47)⟩])
  .ret)))))
def c14L1 : C := (.seq (.reg [⟨(some 14), 224, none, .bi false .lss (.t 13) (.t 12)⟩])
  (.seq (.cond (.t 14) .skip (.exit 0))
  (.seq (.block 1 (.seq (.reg [⟨(some 15), 240, none, .mv (.t 13)⟩,
    ⟨(some 16), 256, none, .ia 1 (.t 11) (.t 13)⟩,
    ⟨(some 17), 272, none, .ld 1 false (.t 16)⟩,
    ⟨(some 8), 128, none, .mv (.t 15)⟩,
    ⟨(some 9), 144, none, .mv (.t 17)⟩])
  (.seq (.reg [⟨(some 18), 288, none, .mv (.t 0)⟩,
    ⟨(some 19), 304, none, .call (.c (.fn (.func 12) [] [])) [(.t 18), (.c (.int .i64 3))]⟩,
    ⟨(some 20), 320, none, .bi false .eql (.t 19) (.c (.int .i64 0))⟩])
  (.cond (.t 20) (.seq (.reg [⟨(some 21), 336, none, .mv (.t 0)⟩,
    ⟨(some 22), 352, none, .call (.c (.fn (.func 12) [] [])) [(.t 21), (.c (.int .i64 4))]⟩,
    ⟨(some 10), 160, none, .mv (.t 22)⟩])
  (.reg [⟨(some 23), 368, none, .mv (.t 7)⟩,
    ⟨(some 24), 384, none, .mv (.t 2)⟩,
    ⟨(some 25), 400, none, .mv (.t 8)⟩,
    ⟨(some 26), 416, none, .bi false .add (.t 24) (.t 25)⟩,
    ⟨(some 27), 432, none, .mv (.t 9)⟩,
    ⟨(some 28), 448, none, .mv (.t 10)⟩,
    ⟨(some 29), 464, none, .bi false .sub (.t 27) (.t 28)⟩,
    ⟨(some 30), 480, none, .mv (.t 0)⟩,
    ⟨(some 31), 496, none, .mv (.t 10)⟩,
    ⟨(some 32), 512, none, .bi false .mul (.c (.int .i64 2)) (.t 31)⟩,
    ⟨(some 33), 528, none, .bi false .add (.t 32) (.c (.int .i64 1))⟩,
    ⟨(some 34), 544, none, .call (.c (.fn (.func 12) [] [])) [(.t 30), (.t 33)]⟩,
    ⟨(some 35), 560, none, .bi false .add (.t 29) (.t 34)⟩,
    ⟨(some 36), 576, none, .mx [(.c (.int .i64 0)), (.t 35)]⟩,
    ⟨(some 37), 592, none, .mv (.t 10)⟩,
    ⟨(some 38), 608, none, .bd [(.int .i64 0), (.int .i64 0), (.int .i64 0)] [(0, 1, (.t 26)), (1, 1, (.t 36)), (2, 1, (.t 37))]⟩,
    ⟨(some 39), 624, none, .bs 34 3 [(.t 38)]⟩,
    ⟨(some 40), 640, none, .app 34 3 24 (.t 23) (.t 39)⟩,
    ⟨(some 7), 112, none, .mv (.t 40)⟩])) .skip))))
  (.reg [⟨(some 41), 656, none, .bi false .add (.t 13) (.c (.int .i64 1))⟩,
    ⟨(some 13), 208, none, .mv (.t 41)⟩]))))
def c14 : C := (.seq (.reg [⟨(some 6), 96, none, .mv (.c (.nil 3))⟩])
  (.seq (.reg [⟨(some 7), 112, none, .mv (.c (.nil 3))⟩])
  (.seq (.seq (.reg [⟨(some 11), 176, none, .mv (.t 1)⟩,
    ⟨(some 12), 192, none, .len (.t 11)⟩,
    ⟨(some 13), 208, none, .mv (.c (.int .i64 0))⟩])
  (.block 0 (.loop c14L1)))
  (.seq (.reg [⟨(some 42), 672, none, .mv (.t 7)⟩,
    ⟨(some 6), 96, none, .mv (.t 42)⟩])
  .ret))))
theorem fits11 : fits Try.prog false Try.f11 1 14 [(2, some (4, true))] = some c11.er := by kernel_rfl
theorem fits15 : fits Try.prog false Try.f15 3 48 [(6, none)] = some c15.er := by kernel_rfl
theorem fits14 : fits Try.prog false Try.f14 3 43 [(6, none)] = some c14.er := by kernel_rfl

theorem nxt_rng (d : Dk) (n : Int) : 0 ≤ nxt d n ∧ (nxt d n = 0 ∨ nxt d n < n) := by
  unfold nxt
  split
  · omega
  · have h1 := Int.emod_nonneg (d.l.getD d.at_ default) (b := n) (by omega)
    have h2 := Int.emod_lt_of_pos (d.l.getD d.at_ default) (b := n) (by omega)
    omega
theorem nxtD_len (d : Dk) (n : Int) : (nxtD d n).l = d.l := by unfold nxtD; split <;> rfl

def checksF (d : Dk) : Ck × Dk := (⟨nxt d 20, nxt d 20 + nxt (nxtD d 20) 80, nxt (nxtD (nxtD d 20) 80) 9, 0⟩, nxtD (nxtD (nxtD d 20) 80) 9)

theorem call11 (d : Dk) (hd : d.l.length ≤ 1000) : PureCall Try.prog 11 [.pt 0 0 0] [.box (eDk 1 d)] ⟨.agg (eCk (checksF d).1), [.box (eDk 1 (checksF d).2)], []⟩ := by
  refine pure_call mix Try.func11 fits11 rfl ?_
  conv => whnf
  refine ⟨_, fun _ => call12 1 d 20 hd (by omega), ?_⟩
  conv => whnf
  refine ⟨_, fun _ => call12 1 (nxtD d 20) 80 (by rw [nxtD_len]; exact hd) (by omega), ?_⟩
  conv => whnf
  refine ⟨_, fun _ => call12 1 (nxtD (nxtD d 20) 80) 9 (by rw [nxtD_len, nxtD_len]; exact hd) (by omega), ?_⟩
  conv => whnf
  have r1 := nxt_rng d 20
  have r2 := nxt_rng (nxtD d 20) 80
  refine ⟨?_, [], ?_⟩
  · (try conv => whnf)
    (repeat' (first | exact True.intro | exact fun _ h => h | refine inR64_of ?_ ?_ | apply And.intro | refine maxLen_ge ?_)) <;> (first | omega | (dsimp only; omega) | (dsimp only [List.length_cons, List.length_nil]; omega) | (intro hg; rw [hg]; rfl) | (intro hg hh; rw [hg, hh]; rfl) | (intro hg; simp [-List.getD_eq_getElem?_getD, -Int.default_eq_zero] at hg; first | omega | (refine inR64_of ?_ ?_ <;> omega) | (constructor <;> omega)) | (simp [-List.getD_eq_getElem?_getD, -Int.default_eq_zero]; done))
  conv => whnf
  refine ⟨rfl, ?_, ?_, trivial⟩
  all_goals repeat' (first | exact True.intro | refine leF_cons rfl ?_ ?_ | refine leS_cons rfl ?_ ?_ | (show PLe _ _ _ _; conv => whnf) | (show SLe _ _ _ _; conv => whnf) | (show PLeL _ _ _ _; conv => whnf) | apply And.intro | rfl | exact Nat.le_refl _ | exact fun _ _ => rfl | exact rowEq0 _ _)

/-- Limits as they are made. -/
def SmallC (c : Ck) : Prop := 0 ≤ c.lo ∧ c.lo ≤ c.hi ∧ c.hi ≤ 100 ∧ 0 ≤ c.j ∧ c.j ≤ 8 ∧ c.s = 0
theorem checksF_small (d : Dk) : SmallC (checksF d).1 := by
  have r1 := nxt_rng d 20
  have r2 := nxt_rng (nxtD d 20) 80
  have r3 := nxt_rng (nxtD (nxtD d 20) 80) 9
  unfold SmallC checksF; dsimp only; omega
theorem checksF_len (d : Dk) : (checksF d).2.l = d.l := by unfold checksF; simp [nxtD_len]

theorem fl_one {α : Type} [Inhabited α] (e : α → List PV) (x : α) : RowEq 1 (fun i => [e x].getD i []) (fl e [x]) := fun i hi => by
  have : i = 0 := by omega
  subst this; rfl

/-! ### walk -/
def wstep (c : Ck) (x : Int) (d : Dk) : Int := mx c.lo (mn c.hi (x + nxt d (2 * c.j + 1) - c.j))
def wk (c : Ck) : Nat → List Int × Int × Dk → List Int × Int × Dk
  | 0, s => s
  | k + 1, s => wk c k (s.1 ++ [wstep c s.2.1 s.2.2], wstep c s.2.1 s.2.2, nxtD s.2.2 (2 * c.j + 1))
def wst0 (d : Dk) (c : Ck) : List Int × Int × Dk := ([c.lo + nxt d (c.hi - c.lo + 1)], c.lo + nxt d (c.hi - c.lo + 1), nxtD d (c.hi - c.lo + 1))
def walkS (d : Dk) (c : Ck) (n : Int) : List Int × Int × Dk := wk c (n.toNat - 1) (wst0 d c)

theorem call15 (d : Dk) (c : Ck) (n : Int) (hd : d.l.length ≤ 1000) (hc : SmallC c) (hn : n ≤ 1000) : PureCall Try.prog 15 [.pt 0 0 0, .agg (eCk c), .int .i64 n] [.box (eDk 1 d)] ⟨.sl 0 1 (walkS d c n).1.length (fl eInt (walkS d c n).1), [.box (eDk 1 (walkS d c n).2.2)], []⟩ := by
  obtain ⟨c1, c2, c3, c4, c5, c6⟩ := hc
  refine pure_call mix Try.func15 fits15 rfl ?_
  conv => whnf
  refine ⟨_, fun _ => call12 1 d (c.hi - c.lo + 1) hd (by omega), ?_⟩
  conv => whnf
  refine ⟨rfl, ?_⟩
  conv => whnf
  have r1 := nxt_rng d (c.hi - c.lo + 1)
  refine ⟨?_, ?_⟩
  · (try conv => whnf)
    (repeat' (first | exact True.intro | exact fun _ h => h | refine inR64_of ?_ ?_ | apply And.intro | refine maxLen_ge ?_)) <;> (first | omega | (dsimp only; omega) | (dsimp only [List.length_cons, List.length_nil]; omega) | (intro hg; rw [hg]; rfl) | (intro hg hh; rw [hg, hh]; rfl) | (intro hg; simp [-List.getD_eq_getElem?_getD, -Int.default_eq_zero] at hg; first | omega | (refine inR64_of ?_ ?_ <;> omega) | (constructor <;> omega)) | (simp [-List.getD_eq_getElem?_getD, -Int.default_eq_zero]; done))
  refine LSem.loop (n := 48) mix (α := List Int × Int × Dk) (fun s => wk c (n.toNat - s.1.length) s = walkS d c n ∧ 1 ≤ s.1.length ∧ s.1.length ≤ 1001 ∧ c.lo ≤ s.2.1 ∧ s.2.1 ≤ c.hi ∧ s.2.2.l.length ≤ 1000)
    (fun s => [(0, .pt 0 0 0), (2, .int .i64 n), (4, .pt 64 0 0), (7, .int .i64 s.2.1), (8, .os 336)])
    (fun s => [(0, .box (eDk 1 s.2.2)), (64, .box (eCk c)), (336, .row 0 3 1 s.1.length (fl eInt s.1))]) (fun s => n.toNat - s.1.length) (wst0 d c) ?_ ?_ ?_
  · refine ⟨rfl, Nat.le_refl _, by simp [wst0], ?_, ?_, ?_⟩
    · dsimp only [wst0]; omega
    · dsimp only [wst0]; omega
    · dsimp only [wst0]; rw [nxtD_len]; exact hd
  · refine ⟨rfl, rfl, ?_, ?_⟩
    all_goals repeat' (first | exact True.intro | refine leF_cons rfl ?_ ?_ | refine leS_cons rfl ?_ ?_ | (show PLe _ _ _ _; conv => whnf) | (show SLe _ _ _ _; conv => whnf) | (show PLeL _ _ _ _; conv => whnf) | apply And.intro | rfl | exact Nat.le_refl _ | exact fun _ _ => rfl | exact rowEq0 _ _)
    exact fl_one eInt _
  · intro s hs
    obtain ⟨h1, h2, h3, h4, h5, h6⟩ := hs
    conv => whnf
    refine ⟨trivial, fun hc => ?_, fun hc => ?_⟩
    · replace hc := dec_iff hc
      simp only [if_true] at hc
      conv => whnf
      refine ⟨_, fun _ => call12 1 s.2.2 (2 * c.j + 1) h6 (by omega), ?_⟩
      conv => whnf
      refine ⟨rfl, ?_⟩
      conv => whnf
      have r2 := nxt_rng s.2.2 (2 * c.j + 1)
      refine ⟨?_, (s.1 ++ [wstep c s.2.1 s.2.2], wstep c s.2.1 s.2.2, nxtD s.2.2 (2 * c.j + 1)), ⟨?_, ?_, ?_, ?_, ?_, ?_⟩, ?_, rfl, rfl, ?_, ?_⟩
      · (try conv => whnf)
        (repeat' (first | exact True.intro | exact fun _ h => h | refine inR64_of ?_ ?_ | apply And.intro | refine maxLen_ge ?_)) <;> (first | omega | (dsimp only; omega) | (dsimp only [List.length_cons, List.length_nil]; omega) | (intro hg; rw [hg]; rfl) | (intro hg hh; rw [hg, hh]; rfl) | (intro hg; simp [-List.getD_eq_getElem?_getD, -Int.default_eq_zero] at hg; first | omega | (refine inR64_of ?_ ?_ <;> omega) | (constructor <;> omega)) | (simp [-List.getD_eq_getElem?_getD, -Int.default_eq_zero]; done))
      · rw [← h1]
        dsimp only
        rw [show n.toNat - s.1.length = (n.toNat - (s.1 ++ [wstep c s.2.1 s.2.2]).length) + 1 by simp; omega]
        rfl
      · simp
      · simp; omega
      · dsimp only [wstep]; rw [mx_eq, mn_eq]; omega
      · dsimp only [wstep]; rw [mx_eq, mn_eq]; omega
      · dsimp only; rw [nxtD_len]; exact h6
      · simp; omega
      all_goals repeat' (first | exact True.intro | refine leF_cons rfl ?_ ?_ | refine leS_cons rfl ?_ ?_ | (show PLe _ _ _ _; conv => whnf) | (show SLe _ _ _ _; conv => whnf) | (show PLeL _ _ _ _; conv => whnf) | apply And.intro | rfl | exact Nat.le_refl _ | exact fun _ _ => rfl | exact rowEq0 _ _)
      · simp
      · exact fl_push eInt s.1 (wstep c s.2.1 s.2.2)
    · replace hc := dec_iff hc
      simp only [Bool.false_eq_true, if_false] at hc
      rw [show walkS d c n = s by rw [← h1, show n.toNat - s.1.length = 0 from by omega]; rfl]
      conv => whnf
      refine ⟨?_, [], ?_⟩
      · (try conv => whnf)
        (repeat' (first | exact True.intro | exact fun _ h => h | refine inR64_of ?_ ?_ | apply And.intro | refine maxLen_ge ?_)) <;> (first | omega | (dsimp only; omega) | (dsimp only [List.length_cons, List.length_nil]; omega) | (intro hg; rw [hg]; rfl) | (intro hg hh; rw [hg, hh]; rfl) | (intro hg; simp [-List.getD_eq_getElem?_getD, -Int.default_eq_zero] at hg; first | omega | (refine inR64_of ?_ ?_ <;> omega) | (constructor <;> omega)) | (simp [-List.getD_eq_getElem?_getD, -Int.default_eq_zero]; done))
      conv => whnf
      refine ⟨rfl, ?_, ?_, trivial⟩
      all_goals repeat' (first | exact True.intro | refine leF_cons rfl ?_ ?_ | refine leS_cons rfl ?_ ?_ | (show PLe _ _ _ _; conv => whnf) | (show SLe _ _ _ _; conv => whnf) | (show PLeL _ _ _ _; conv => whnf) | apply And.intro | rfl | exact Nat.le_refl _ | exact fun _ _ => rfl | exact rowEq0 _ _)

/-! ### measured -/
def msr (frm : Int) : Nat → List Int → Dk → List Me × Dk
  | _, [], d => ([], d)
  | i, x :: xs, d =>
    if nxt d 3 = 0 then
      let d1 := nxtD d 3
      let wide := nxt d1 4
      let d2 := nxtD d1 4
      let v := nxt d2 (2 * wide + 1)
      let r := msr frm (i + 1) xs (nxtD d2 (2 * wide + 1))
      (⟨frm + i, mx 0 (x - wide + v), wide⟩ :: r.1, r.2)
    else msr frm (i + 1) xs (nxtD d 3)

def mk1 (frm : Int) (i : Nat) (x : Int) (d : Dk) : Me := ⟨frm + i, mx 0 (x - nxt (nxtD d 3) 4 + nxt (nxtD (nxtD d 3) 4) (2 * nxt (nxtD d 3) 4 + 1)), nxt (nxtD d 3) 4⟩
def dk1 (d : Dk) : Dk := nxtD (nxtD (nxtD d 3) 4) (2 * nxt (nxtD d 3) 4 + 1)
theorem msr_hit {frm : Int} {i : Nat} {x : Int} {xs : List Int} {d : Dk} (h : nxt d 3 = 0) : msr frm i (x :: xs) d = (mk1 frm i x d :: (msr frm (i + 1) xs (dk1 d)).1, (msr frm (i + 1) xs (dk1 d)).2) := by
  rw [msr, if_pos h]; rfl
theorem msr_skip {frm : Int} {i : Nat} {x : Int} {xs : List Int} {d : Dk} (h : nxt d 3 ≠ 0) : msr frm i (x :: xs) d = msr frm (i + 1) xs (nxtD d 3) := by
  rw [msr, if_neg h]

theorem call14 (τ : Nat) (d : Dk) (l : List Int) (frm : Int) (hd : d.l.length ≤ 1000) (hl : l.length ≤ 1000) (hx : ∀ x ∈ l, 0 ≤ x ∧ x ≤ 1000000) (hf : 0 ≤ frm ∧ frm ≤ 1000000) :
    PureCall Try.prog 14 [.pt 0 0 0, .sl τ 1 l.length (fl eInt l), .int .i64 frm] [.box (eDk 1 d)] ⟨.sl 0 3 (msr frm 0 l d).1.length (fl eMe (msr frm 0 l d).1), [.box (eDk 1 (msr frm 0 l d).2)], []⟩ := by
  refine pure_call mix Try.func14 fits14 rfl ?_
  conv => whnf
  refine ⟨trivial, ?_⟩
  refine LSem.adopt 7 1000000 34 3 3 rfl rfl ?_
  refine LSem.loop (n := 43) mix (α := Nat × List Me × Dk) (fun s => s.1 ≤ l.length ∧ s.2.1.length ≤ s.1 ∧ s.2.1 ++ (msr frm s.1 (l.drop s.1) s.2.2).1 = (msr frm 0 l d).1 ∧ (msr frm s.1 (l.drop s.1) s.2.2).2 = (msr frm 0 l d).2 ∧ s.2.2.l.length ≤ 1000)
    (fun s => [(0, .pt 0 0 0), (2, .int .i64 frm), (7, .os 1000000), (11, .sl τ 1 l.length (fl eInt l)), (12, .int .i64 l.length), (13, .int .i64 s.1)])
    (fun s => [(0, .box (eDk 1 s.2.2)), (1000000, .row 0 34 3 s.2.1.length (fl eMe s.2.1))]) (fun s => l.length - s.1) (0, [], d) ?_ ?_ ?_
  · exact ⟨Nat.zero_le _, Nat.le_refl _, rfl, rfl, hd⟩
  · refine ⟨rfl, rfl, ?_, ?_⟩
    all_goals repeat' (first | exact True.intro | refine leF_cons rfl ?_ ?_ | refine leS_cons rfl ?_ ?_ | (show PLe _ _ _ _; conv => whnf) | (show SLe _ _ _ _; conv => whnf) | (show PLeL _ _ _ _; conv => whnf) | apply And.intro | rfl | exact Nat.le_refl _ | exact fun _ _ => rfl | exact rowEq0 _ _)
  · intro s hs
    obtain ⟨h1, h2, h3, h4, h5⟩ := hs
    conv => whnf
    refine ⟨trivial, fun hc => ?_, fun hc => ?_⟩
    · replace hc := dec_iff hc
      simp only [if_true] at hc
      have hlt : s.1 < l.length := by omega
      have hm := hx _ (getD_mem (l := l) (i := ((s.1 : Int)).toNat) (by omega))
      have hj' : ((s.1 : Int)).toNat = s.1 := by omega
      have hdrop : l.drop s.1 = l.getD s.1 default :: l.drop (s.1 + 1) := by
        rw [List.drop_eq_getElem_cons hlt]; congr 1
        rw [List.getD_eq_getElem?_getD, List.getElem?_eq_getElem hlt]; rfl
      conv => whnf
      refine ⟨_, fun _ => call12 1 s.2.2 3 h5 (by omega), ?_⟩
      conv => whnf
      refine ⟨?_, fun hc1 => ?_, fun hc1 => ?_⟩
      · (try conv => whnf)
        (repeat' (first | exact True.intro | exact fun _ h => h | refine inR64_of ?_ ?_ | apply And.intro | refine maxLen_ge ?_)) <;> (first | omega | (dsimp only; omega) | (dsimp only [List.length_cons, List.length_nil]; omega) | (intro hg; rw [hg]; rfl) | (intro hg hh; rw [hg, hh]; rfl) | (intro hg; simp [-List.getD_eq_getElem?_getD, -Int.default_eq_zero] at hg; first | omega | (refine inR64_of ?_ ?_ <;> omega) | (constructor <;> omega)) | (simp [-List.getD_eq_getElem?_getD, -Int.default_eq_zero]; done))
      · simp [-List.getD_eq_getElem?_getD, -Int.default_eq_zero] at hc1
        conv => whnf
        refine ⟨_, fun _ => call12 1 (nxtD s.2.2 3) 4 (by rw [nxtD_len]; exact h5) (by omega), ?_⟩
        conv => whnf
        have r1 := nxt_rng (nxtD s.2.2 3) 4
        refine ⟨_, fun _ => call12 1 (nxtD (nxtD s.2.2 3) 4) (2 * nxt (nxtD s.2.2 3) 4 + 1) (by rw [nxtD_len, nxtD_len]; exact h5) (by omega), ?_⟩
        conv => whnf
        have r2 := nxt_rng (nxtD (nxtD s.2.2 3) 4) (2 * nxt (nxtD s.2.2 3) 4 + 1)
        rw [hdrop] at h3 h4
        rw [msr_hit hc1] at h3 h4
        refine ⟨?_, (s.1 + 1, s.2.1 ++ [mk1 frm s.1 (l.getD s.1 default) s.2.2], dk1 s.2.2), ⟨?_, ?_, ?_, ?_, ?_⟩, ?_, rfl, rfl, ?_, ?_⟩
        · (try conv => whnf)
          (repeat' (first | exact True.intro | exact fun _ h => h | refine inR64_of ?_ ?_ | apply And.intro | refine maxLen_ge ?_)) <;> (first | omega | (dsimp only; omega) | (dsimp only [List.length_cons, List.length_nil]; omega) | (intro hg; rw [hg]; rfl) | (intro hg hh; rw [hg, hh]; rfl) | (intro hg; simp [-List.getD_eq_getElem?_getD, -Int.default_eq_zero] at hg; first | omega | (refine inR64_of ?_ ?_ <;> omega) | (constructor <;> omega)) | (simp [-List.getD_eq_getElem?_getD, -Int.default_eq_zero]; done))
        · dsimp only; omega
        · simp; omega
        · dsimp only at h3 ⊢; rw [← h3, List.append_assoc]; rfl
        · exact h4
        · dsimp only [dk1]; rw [nxtD_len, nxtD_len, nxtD_len]; exact h5
        · dsimp only; omega
        all_goals repeat' (first | exact True.intro | refine leF_cons rfl ?_ ?_ | refine leS_cons rfl ?_ ?_ | (show PLe _ _ _ _; conv => whnf) | (show SLe _ _ _ _; conv => whnf) | (show PLeL _ _ _ _; conv => whnf) | apply And.intro | rfl | exact Nat.le_refl _ | exact fun _ _ => rfl | exact rowEq0 _ _)
        · simp
        · exact fl_push eMe s.2.1 (mk1 frm s.1 (l.getD s.1 default) s.2.2)
      · simp [-List.getD_eq_getElem?_getD, -Int.default_eq_zero] at hc1
        rw [hdrop] at h3 h4
        rw [msr_skip hc1] at h3 h4
        conv => whnf
        refine ⟨?_, (s.1 + 1, s.2.1, nxtD s.2.2 3), ⟨?_, ?_, ?_, ?_, ?_⟩, ?_, rfl, rfl, ?_, ?_⟩
        · (try conv => whnf)
          (repeat' (first | exact True.intro | exact fun _ h => h | refine inR64_of ?_ ?_ | apply And.intro | refine maxLen_ge ?_)) <;> (first | omega | (dsimp only; omega) | (dsimp only [List.length_cons, List.length_nil]; omega) | (intro hg; rw [hg]; rfl) | (intro hg hh; rw [hg, hh]; rfl) | (intro hg; simp [-List.getD_eq_getElem?_getD, -Int.default_eq_zero] at hg; first | omega | (refine inR64_of ?_ ?_ <;> omega) | (constructor <;> omega)) | (simp [-List.getD_eq_getElem?_getD, -Int.default_eq_zero]; done))
        · dsimp only; omega
        · dsimp only; omega
        · exact h3
        · exact h4
        · dsimp only; rw [nxtD_len]; exact h5
        · dsimp only; omega
        all_goals repeat' (first | exact True.intro | refine leF_cons rfl ?_ ?_ | refine leS_cons rfl ?_ ?_ | (show PLe _ _ _ _; conv => whnf) | (show SLe _ _ _ _; conv => whnf) | (show PLeL _ _ _ _; conv => whnf) | apply And.intro | rfl | exact Nat.le_refl _ | exact fun _ _ => rfl | exact rowEq0 _ _)
    · replace hc := dec_iff hc
      simp only [Bool.false_eq_true, if_false] at hc
      have he : l.drop s.1 = [] := List.drop_eq_nil_of_le (by omega)
      rw [he, show msr frm s.1 [] s.2.2 = ([], s.2.2) by rw [msr]] at h3 h4
      dsimp only at h3 h4
      rw [List.append_nil] at h3
      rw [← h3, ← h4]
      conv => whnf
      refine ⟨?_, [], ?_⟩
      · (try conv => whnf)
        (repeat' (first | exact True.intro | exact fun _ h => h | refine inR64_of ?_ ?_ | apply And.intro | refine maxLen_ge ?_)) <;> (first | omega | (dsimp only; omega) | (dsimp only [List.length_cons, List.length_nil]; omega) | (intro hg; rw [hg]; rfl) | (intro hg hh; rw [hg, hh]; rfl) | (intro hg; simp [-List.getD_eq_getElem?_getD, -Int.default_eq_zero] at hg; first | omega | (refine inR64_of ?_ ?_ <;> omega) | (constructor <;> omega)) | (simp [-List.getD_eq_getElem?_getD, -Int.default_eq_zero]; done))
      conv => whnf
      refine ⟨rfl, ?_, ?_, trivial⟩
      all_goals repeat' (first | exact True.intro | refine leF_cons rfl ?_ ?_ | refine leS_cons rfl ?_ ?_ | (show PLe _ _ _ _; conv => whnf) | (show SLe _ _ _ _; conv => whnf) | (show PLeL _ _ _ _; conv => whnf) | apply And.intro | rfl | exact Nat.le_refl _ | exact fun _ _ => rfl | exact rowEq0 _ _)

end Pv
end Go.Proofs.Ytiknpkadlckmjaa
