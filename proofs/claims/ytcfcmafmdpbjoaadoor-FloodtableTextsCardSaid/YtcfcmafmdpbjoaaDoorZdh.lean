/- LAW 24: tables are read back from their texts (FloodtableBack). -/
import Derived.Test.YtcfcmafmdpbjoaaDoorZdg
/- LAW 24, THE WALKS: made tables. -/
set_option linter.unusedSimpArgs false
set_option linter.unusedVariables false
namespace Go.Proofs.YtcfcmafmdpbjoaaDoor
namespace Pv
def c11L2 : C := (.seq (.reg [⟨(some 23), 368, none, .bi false .lss (.t 22) (.t 21)⟩])
  (.seq (.cond (.t 23) .skip (.exit 2))
  (.seq (.block 3 (.seq (.reg [⟨(some 24), 384, none, .mv (.t 22)⟩,
    ⟨(some 6), 96, none, .mv (.t 24)⟩])
  (.seq (.reg [⟨(some 25), 400, none, .mv (.t 0)⟩,
    ⟨(some 26), 416, none, .call (.c (.fn (.func 27) [] [])) [(.t 25), (.c (.int .i64 8))]⟩,
    ⟨(some 7), 112, none, .mv (.t 26)⟩])
  (.seq (.seq (.reg [⟨(some 27), 432, none, .mv (.t 6)⟩,
    ⟨(some 28), 448, none, .bi false .gtr (.t 27) (.c (.int .i64 0))⟩])
  (.cond (.t 28) (.reg [⟨(some 29), 464, none, .mv (.t 7)⟩,
    ⟨(some 30), 480, none, .mv (.t 5)⟩,
    ⟨(some 31), 496, none, .mv (.t 6)⟩,
    ⟨(some 32), 512, none, .bi false .sub (.t 31) (.c (.int .i64 1))⟩,
    ⟨(some 33), 528, none, .ia 1 (.t 30) (.t 32)⟩,
    ⟨(some 34), 544, none, .ld 1 false (.t 33)⟩,
    ⟨(some 35), 560, none, .bi false .add (.t 29) (.t 34)⟩,
    ⟨(some 7), 112, none, .mv (.t 35)⟩]) .skip))
  (.seq (.seq (.reg [⟨(some 36), 576, none, .mv (.t 4)⟩,
    ⟨(some 37), 592, none, .bi false .gtr (.t 36) (.c (.int .i64 0))⟩])
  (.cond (.t 37) (.reg [⟨(some 38), 608, none, .mv (.t 7)⟩,
    ⟨(some 39), 624, none, .fa 2 (.t 3)⟩,
    ⟨(some 40), 640, none, .ld 1 false (.t 39)⟩,
    ⟨(some 41), 656, none, .mv (.t 4)⟩,
    ⟨(some 42), 672, none, .bi false .sub (.t 41) (.c (.int .i64 1))⟩,
    ⟨(some 43), 688, none, .ia 1 (.t 40) (.t 42)⟩,
    ⟨(some 44), 704, none, .ld 1 false (.t 43)⟩,
    ⟨(some 45), 720, none, .mv (.t 6)⟩,
    ⟨(some 46), 736, none, .ia 1 (.t 44) (.t 45)⟩,
    ⟨(some 47), 752, none, .ld 1 false (.t 46)⟩,
    ⟨(some 48), 768, none, .mx [(.t 38), (.t 47)]⟩,
    ⟨(some 7), 112, none, .mv (.t 48)⟩]) .skip))
  (.reg [⟨(some 49), 784, none, .mv (.t 5)⟩,
    ⟨(some 50), 800, none, .mv (.t 7)⟩,
    ⟨(some 51), 816, none, .bs 3 1 [(.t 50)]⟩,
    ⟨(some 52), 832, none, .app 3 1 8 (.t 49) (.t 51)⟩,
    ⟨(some 5), 80, none, .mv (.t 52)⟩]))))))
  (.reg [⟨(some 53), 848, none, .bi false .add (.t 22) (.c (.int .i64 1))⟩,
    ⟨(some 22), 352, none, .mv (.t 53)⟩]))))
def c11L1 : C := (.seq (.reg [⟨(some 17), 272, none, .bi false .lss (.t 16) (.t 15)⟩])
  (.seq (.cond (.t 17) .skip (.exit 0))
  (.seq (.block 1 (.seq (.reg [⟨(some 18), 288, none, .mv (.t 16)⟩,
    ⟨(some 4), 64, none, .mv (.t 18)⟩])
  (.seq (.reg [⟨(some 5), 80, none, .mv (.c (.nil 1))⟩])
  (.seq (.seq (.reg [⟨(some 19), 304, none, .fa 1 (.t 3)⟩,
    ⟨(some 20), 320, none, .ld 1 false (.t 19)⟩,
    ⟨(some 21), 336, none, .len (.t 20)⟩,
    ⟨(some 22), 352, none, .mv (.c (.int .i64 0))⟩])
  (.block 2 (.loop c11L2)))
  (.reg [⟨(some 54), 864, none, .fa 2 (.t 3)⟩,
    ⟨(some 55), 880, none, .ld 1 false (.t 54)⟩,
    ⟨(some 56), 896, none, .mv (.t 5)⟩,
    ⟨(some 57), 912, none, .bs 22 1 [(.t 56)]⟩,
    ⟨(some 58), 928, none, .app 22 1 24 (.t 55) (.t 57)⟩,
    ⟨(some 59), 944, none, .fa 2 (.t 3)⟩,
    ⟨none, 0, none, .st 1 (.t 59) (.t 58)⟩])))))
  (.reg [⟨(some 60), 960, none, .bi false .add (.t 16) (.c (.int .i64 1))⟩,
    ⟨(some 16), 256, none, .mv (.t 60)⟩]))))
def c11 : C := (.seq (.reg [⟨(some 2), 32, none, .al [(.nil 1), (.nil 1), (.nil 1)]⟩])
  (.seq (.reg [⟨(some 8), 128, none, .mv (.t 0)⟩,
    ⟨(some 9), 144, none, .call (.c (.fn (.func 26) [] [])) [(.t 8), (.c (.int .i64 90)), (.c (.int .i64 40))]⟩,
    ⟨(some 10), 160, none, .mv (.t 0)⟩,
    ⟨(some 11), 176, none, .call (.c (.fn (.func 26) [] [])) [(.t 10), (.c (.int .i64 0)), (.c (.int .i64 12))]⟩,
    ⟨(some 12), 192, none, .bd [(.nil 1), (.nil 1), (.nil 1)] [(0, 1, (.t 9)), (1, 1, (.t 11))]⟩,
    ⟨(some 3), 48, none, .al [(.nil 1), (.nil 1), (.nil 1)]⟩,
    ⟨none, 0, none, .st 3 (.t 3) (.t 12)⟩])
  (.seq (.seq (.reg [⟨(some 13), 208, none, .fa 0 (.t 3)⟩,
    ⟨(some 14), 224, none, .ld 1 false (.t 13)⟩,
    ⟨(some 15), 240, none, .len (.t 14)⟩,
    ⟨(some 16), 256, none, .mv (.c (.int .i64 0))⟩])
  (.block 0 (.loop c11L1)))
  (.seq (.reg [⟨(some 61), 976, none, .ld 3 true (.t 3)⟩,
    ⟨none, 0, none, .st 3 (.t 2) (.t 61)⟩])
  .ret))))
theorem fits11 : fits Tryd.prog false Tryd.f11 1 62 [(2, some (3, true))] = some c11.er := by kernel_rfl

def it {α : Type} (f : α → α) : Nat → α → α
  | 0, s => s
  | n + 1, s => it f n (f s)
def cellX (up : Option (List Int)) (s : List Int × Dk) : Int :=
  let x := if 0 < s.1.length then nxt s.2 8 + s.1.getD (s.1.length - 1) default else nxt s.2 8
  match up with
  | none => x
  | some u => mx x (u.getD s.1.length default)
def cellN (up : Option (List Int)) (s : List Int × Dk) : List Int × Dk := (s.1 ++ [cellX up s], nxtD s.2 8)
def rowS (up : Option (List Int)) (n : Nat) (d : Dk) : List Int × Dk := it (cellN up) n ([], d)
def tabN (n : Nat) (s : List (List Int) × Dk) : List (List Int) × Dk := (s.1 ++ [(rowS (abO s.1 s.1.length) n s.2).1], (rowS (abO s.1 s.1.length) n s.2).2)
def tabF (d : Dk) : FT × Dk :=
  let a := axisS d 90 40
  let b := axisS a.d 0 12
  let r := it (tabN b.l.length) a.l.length ([], b.d)
  (⟨a.l, b.l, r.1⟩, r.2)

theorem axI_at (step : Int) : ∀ (k : Nat) (s : Axs), (axI step k s).d.at_ ≤ s.d.at_ + k ∧ (axI step k s).l.length = s.l.length + k
  | 0, s => ⟨Nat.le_refl _, rfl⟩
  | k + 1, s => by
    have h := axI_at step k (axN step s)
    have h2 := nxtD_at s.d step
    unfold axI
    have e1 : (axN step s).d.at_ = (nxtD s.d step).at_ := rfl
    have e2 : (axN step s).l.length = s.l.length + 1 := by simp [axN]
    omega
theorem axisS_at (d : Dk) (start step : Int) : (axisS d start step).d.at_ ≤ d.at_ + 6 ∧ 1 ≤ (axisS d start step).l.length ∧ (axisS d start step).l.length ≤ 4 := by
  have h := axI_at step ((nxt (nxtD d step) 4).toNat + 1) ⟨[], start + nxt d step, nxtD (nxtD d step) 4⟩
  have r := nxt_lt (nxtD d step) (n := 4) (by omega)
  have h1 := nxtD_at d step
  have h2 := nxtD_at (nxtD d step) 4
  unfold axisS
  simp only [List.length_nil] at h
  have e1 : (⟨[], start + nxt d step, nxtD (nxtD d step) 4⟩ : Axs).d.at_ = (nxtD (nxtD d step) 4).at_ := rfl
  omega
/-- A row so far: what its cells are like. -/
def RowOK (l : List Int) : Prop := ∀ k, k < l.length → 0 ≤ l.getD k default ∧ l.getD k default ≤ 7 * ((k : Int) + 1)
def RelOK (n : Nat) (rel : List (List Int)) : Prop := ∀ j, j < rel.length → (rel.getD j default).length = n ∧ RowOK (rel.getD j default)
theorem rowOK_push {l : List Int} {x : Int} (h : RowOK l) (hx : 0 ≤ x ∧ x ≤ 7 * ((l.length : Int) + 1)) : RowOK (l ++ [x]) := fun k hk => by
  rw [List.length_append, List.length_cons, List.length_nil] at hk
  by_cases hk2 : k < l.length
  · have := h k hk2
    rw [List.getD_eq_getElem?_getD] at this ⊢
    rw [List.getElem?_append_left hk2]; exact this
  · have e : k = l.length := by omega
    subst e
    rw [List.getD_eq_getElem?_getD, List.getElem?_append_right (Nat.le_refl _), Nat.sub_self]
    exact hx
theorem relOK_push {n : Nat} {rel : List (List Int)} {l : List Int} (h : RelOK n rel) (hl : l.length = n) (hx : RowOK l) : RelOK n (rel ++ [l]) := fun k hk => by
  rw [List.length_append, List.length_cons, List.length_nil] at hk
  by_cases hk2 : k < rel.length
  · have := h k hk2
    rw [List.getD_eq_getElem?_getD] at this ⊢
    rw [List.getElem?_append_left hk2]; exact this
  · have e : k = rel.length := by omega
    subst e
    rw [List.getD_eq_getElem?_getD, List.getElem?_append_right (Nat.le_refl _), Nat.sub_self]
    exact ⟨hl, hx⟩
theorem cell_rng {up : Option (List Int)} {l : List Int} {d : Dk} (hl : RowOK l) (hu : ∀ u, up = some u → l.length < u.length ∧ RowOK u) : 0 ≤ cellX up (l, d) ∧ cellX up (l, d) ≤ 7 * ((l.length : Int) + 1) := by
  have r := nxt_lt d (n := 8) (by omega)
  have hb : 0 ≤ (if 0 < l.length then nxt d 8 + l.getD (l.length - 1) default else nxt d 8) ∧ (if 0 < l.length then nxt d 8 + l.getD (l.length - 1) default else nxt d 8) ≤ 7 * ((l.length : Int) + 1) := by
    split
    · rename_i h
      have := hl (l.length - 1) (by omega)
      omega
    · omega
  unfold cellX
  dsimp only
  generalize (if 0 < l.length then nxt d 8 + l.getD (l.length - 1) default else nxt d 8) = x at hb ⊢
  cases up with
  | none => exact hb
  | some u =>
    obtain ⟨h1, h2⟩ := hu u rfl
    have := h2 _ h1
    dsimp only
    unfold mx
    split <;> omega
/-- The row above. -/
theorem up_ok {n : Nat} {rel : List (List Int)} (h : RelOK n rel) {u : List Int} (hu : abO rel rel.length = some u) : u.length = n ∧ RowOK u := by
  cases hl : rel.length with
  | zero => rw [hl] at hu; cases hu
  | succ k =>
    rw [hl] at hu
    injection hu with hu; subst hu
    exact h k (by omega)

theorem abO_zero {rel : List (List Int)} (h : rel.length = 0) : abO rel rel.length = none := by rw [h]; rfl
theorem abO_pos {rel : List (List Int)} (h : 0 < rel.length) : abO rel rel.length = some (rel.getD ((rel.length : Int) - 1).toNat default) := by
  have e : ((rel.length : Int) - 1).toNat = rel.length - 1 := by omega
  rw [e]
  cases hl : rel.length with
  | zero => omega
  | succ k => rfl

set_option maxRecDepth 100000 in
set_option maxHeartbeats 16000000 in
theorem call11 (d : Dk) (hd : d.at_ ≤ 900000) : PureCall Tryd.prog 11 [.pt 0 0 0] [.box (eDk 1 d)] ⟨.agg (eFT 0 0 (tabF d).1), [.box (eDk 1 (tabF d).2)], []⟩ := by
  refine pure_call mix Tryd.func11 fits11 rfl ?_
  conv => whnf
  refine ⟨_, fun _ => call26 d 90 40 (by omega) (by omega) (by omega), ?_⟩
  conv => whnf
  have ha := axisS_at d 90 40
  unfold tabF
  dsimp only
  generalize axisS d 90 40 = A at ha ⊢
  refine ⟨_, fun _ => call26 A.d 0 12 (by omega) (by omega) (by omega), ?_⟩
  have hb := axisS_at A.d 0 12
  generalize axisS A.d 0 12 = B at hb ⊢
  conv => whnf
  refine ⟨?_, ?_⟩
  · (try conv => whnf)
    (repeat' (first | exact True.intro | exact fun _ h => h | refine inR64_of ?_ ?_ | apply And.intro | refine maxLen_ge ?_)) <;> (first | omega | (dsimp only; omega) | (dsimp only [List.length_cons, List.length_nil]; omega) | (intro hg; rw [hg]; rfl) | (intro hg hh; rw [hg, hh]; rfl) | (intro hg; simp [-List.getD_eq_getElem?_getD, -Int.default_eq_zero] at hg; first | omega | (refine inR64_of ?_ ?_ <;> omega) | (constructor <;> omega)) | (simp [-List.getD_eq_getElem?_getD, -Int.default_eq_zero]; done))
  refine LSem.adoptF 48 2 1000001 22 1 1 _ rfl rfl rfl ?_
  refine LSem.loop (n := 62) mix (α := Nat × List (List Int) × Dk) (fun s => s.1 + s.2.1.length = A.l.length ∧ it (tabN B.l.length) s.1 s.2 = it (tabN B.l.length) A.l.length ([], B.d) ∧ RelOK B.l.length s.2.1 ∧ s.2.2.at_ ≤ 901000 + 10 * s.2.1.length)
    (fun s => [(0, .pt 0 0 0), (2, .pt 32 0 0), (3, .pt 48 0 0), (15, .int .i64 A.l.length), (16, .int .i64 s.2.1.length)])
    (fun s => [(0, .box (eDk 1 s.2.2)), (32, .box [.nil 1, .nil 1, .nil 1]), (48, .box [.sl 0 1 A.l.length (fl eInt A.l), .sl 0 1 B.l.length (fl eInt B.l), .os 1000001]), (1000001, .row 0 22 1 s.2.1.length (fl (eIs 0) s.2.1))]) (fun s => s.1) (A.l.length, [], B.d) ?_ ?_ ?_
  · exact ⟨rfl, rfl, fun j hj => absurd hj (Nat.not_lt_zero _), by dsimp only; omega⟩
  · refine ⟨rfl, rfl, ?_, ?_⟩
    all_goals repeat' (first | exact True.intro | refine leF_cons rfl ?_ ?_ | refine leS_cons rfl ?_ ?_ | (show PLe _ _ _ _; conv => whnf) | (show SLe _ _ _ _; conv => whnf) | (show PLeL _ _ _ _; conv => whnf) | apply And.intro | rfl | exact Nat.le_refl _ | exact fun _ _ => rfl | exact rowEq0 _ _)
    all_goals skip
  · intro s hs
    obtain ⟨m, rel, e⟩ := s
    obtain ⟨k1, k2, k3, k4⟩ := hs
    dsimp only at k1 k2 k3 k4
    conv => whnf
    refine ⟨trivial, fun hc => ?_, fun hc => ?_⟩
    · replace hc := of_decide_eq_true hc
      have hm : 0 < m := by
        have h : (rel.length : Int) < A.l.length := hc
        omega
      conv => whnf
      refine ⟨?_, ?_⟩
      · (try conv => whnf)
        (repeat' (first | exact True.intro | exact fun _ h => h | refine inR64_of ?_ ?_ | apply And.intro | refine maxLen_ge ?_)) <;> (first | omega | (dsimp only; omega) | (dsimp only [List.length_cons, List.length_nil]; omega) | (intro hg; rw [hg]; rfl) | (intro hg hh; rw [hg, hh]; rfl) | (intro hg; simp [-List.getD_eq_getElem?_getD, -Int.default_eq_zero] at hg; first | omega | (refine inR64_of ?_ ?_ <;> omega) | (constructor <;> omega)) | (simp [-List.getD_eq_getElem?_getD, -Int.default_eq_zero]; done))
      refine LSem.adopt 5 1000000 3 1 1 rfl rfl ?_
      let U := abO rel rel.length
      refine LSem.loop (n := 62) mix (α := Nat × List Int × Dk) (fun s => s.1 + s.2.1.length = B.l.length ∧ it (cellN U) s.1 s.2 = rowS U B.l.length e ∧ RowOK s.2.1 ∧ s.2.2.at_ ≤ e.at_ + s.2.1.length)
        (fun s => [(0, .pt 0 0 0), (2, .pt 32 0 0), (3, .pt 48 0 0), (4, .int .i64 rel.length), (5, .os 1000000), (15, .int .i64 A.l.length), (16, .int .i64 rel.length), (21, .int .i64 B.l.length), (22, .int .i64 s.2.1.length)])
        (fun s => [(0, .box (eDk 1 s.2.2)), (32, .box [.nil 1, .nil 1, .nil 1]), (48, .box [.sl 0 1 A.l.length (fl eInt A.l), .sl 0 1 B.l.length (fl eInt B.l), .os 1000001]), (1000001, .row 0 22 1 rel.length (fl (eIs 0) rel)), (1000000, .row 0 3 1 s.2.1.length (fl eInt s.2.1))]) (fun s => s.1) (B.l.length, [], e) ?_ ?_ ?_
      · exact ⟨rfl, rfl, fun j hj => absurd hj (Nat.not_lt_zero _), Nat.le_refl _⟩
      · refine ⟨rfl, rfl, ?_, ?_⟩
        all_goals repeat' (first | exact True.intro | refine leF_cons rfl ?_ ?_ | refine leS_cons rfl ?_ ?_ | (show PLe _ _ _ _; conv => whnf) | (show SLe _ _ _ _; conv => whnf) | (show PLeL _ _ _ _; conv => whnf) | apply And.intro | rfl | exact Nat.le_refl _ | exact fun _ _ => rfl | exact rowEq0 _ _)
        all_goals skip
      · intro s hs
        obtain ⟨j, l, f⟩ := s
        obtain ⟨i1, i2, i3, i4⟩ := hs
        dsimp only at i1 i2 i3 i4
        conv => whnf
        refine ⟨trivial, fun hc2 => ?_, fun hc2 => ?_⟩
        · replace hc2 := of_decide_eq_true hc2
          have hj0 : 0 < j := by
            have h : (l.length : Int) < B.l.length := hc2
            omega
          have r3 := nxt_lt f (n := 8) (by omega)
          have a3 := nxtD_at f 8
          have hrng := cell_rng (up := U) (d := f) i3 fun u hu => by
            obtain ⟨g1, g2⟩ := up_ok k3 hu
            exact ⟨by omega, g2⟩
          conv => whnf
          refine ⟨_, fun _ => call_next 1 f 8 (by omega) (by omega), ?_⟩
          have e9 : ((l.length : Int) - 1).toNat = l.length - 1 := by omega
          have e8 : ((l.length : Int)).toNat = l.length := by omega
          have e7 : ((rel.length : Int) - 1).toNat = rel.length - 1 := by omega
          conv => whnf
          refine ⟨?_, fun hc3 => ?_, fun hc3 => ?_⟩
          · (try conv => whnf)
            (repeat' (first | exact True.intro | exact fun _ h => h | refine inR64_of ?_ ?_ | apply And.intro | refine maxLen_ge ?_)) <;> (first | omega | (dsimp only; omega) | (dsimp only [List.length_cons, List.length_nil]; omega) | (intro hg; rw [hg]; rfl) | (intro hg hh; rw [hg, hh]; rfl) | (intro hg; simp [-List.getD_eq_getElem?_getD, -Int.default_eq_zero] at hg; first | omega | (refine inR64_of ?_ ?_ <;> omega) | (constructor <;> omega)) | (simp [-List.getD_eq_getElem?_getD, -Int.default_eq_zero]; done))
          · simp only [bif_t, bif_f, decide_eq_true_eq, decide_eq_false_iff_not, Bool.not_eq_true', Bool.not_eq_false', Bool.and_eq_true, Bool.or_eq_true, Bool.and_eq_false_iff, Bool.or_eq_false_iff, beq_iff_eq, bne_iff_ne, beq_eq_false_iff_ne, bne_eq_false_iff_eq, reduceCtorEq, false_and, and_false, true_and, and_true, or_false, false_or, or_true, true_or, not_true_eq_false, not_false_eq_true, Int.toNat_zero] at hc3
            have hl0 : 0 < l.length := by omega
            have hprev := i3 ((l.length : Int) - 1).toNat (by omega)
            conv => whnf
            refine ⟨?_, fun hc4 => ?_, fun hc4 => ?_⟩
            · (try conv => whnf)
              (repeat' (first | exact True.intro | exact fun _ h => h | refine inR64_of ?_ ?_ | apply And.intro | refine maxLen_ge ?_)) <;> (first | omega | (dsimp only; omega) | (dsimp only [List.length_cons, List.length_nil]; omega) | (intro hg; rw [hg]; rfl) | (intro hg hh; rw [hg, hh]; rfl) | (intro hg; simp [-List.getD_eq_getElem?_getD, -Int.default_eq_zero] at hg; first | omega | (refine inR64_of ?_ ?_ <;> omega) | (constructor <;> omega)) | (simp [-List.getD_eq_getElem?_getD, -Int.default_eq_zero]; done))
            · simp only [bif_t, bif_f, decide_eq_true_eq, decide_eq_false_iff_not, Bool.not_eq_true', Bool.not_eq_false', Bool.and_eq_true, Bool.or_eq_true, Bool.and_eq_false_iff, Bool.or_eq_false_iff, beq_iff_eq, bne_iff_ne, beq_eq_false_iff_ne, bne_eq_false_iff_eq, reduceCtorEq, false_and, and_false, true_and, and_true, or_false, false_or, or_true, true_or, not_true_eq_false, not_false_eq_true, Int.toNat_zero] at hc4
              have hr0 : 0 < rel.length := by omega
              have hU := abO_pos hr0
              have hX : cellX U (l, f) = mx (nxt f 8 + l.getD ((l.length : Int) - 1).toNat default) ((rel.getD ((rel.length : Int) - 1).toNat default).getD ((l.length : Int)).toNat default) := by
                show (match abO rel rel.length with | none => _ | some u => mx _ (u.getD l.length default)) = _
                rw [hU]
                dsimp only
                rw [if_pos hl0, show ((l.length : Int) - 1).toNat = l.length - 1 by omega, show ((l.length : Int)).toNat = l.length by omega]
              have hup := (k3 ((rel.length : Int) - 1).toNat (by omega)).1
              have e7 : ((rel.length : Int) - 1).toNat = rel.length - 1 := by omega
              have e8 : ((l.length : Int)).toNat = l.length := by omega
              have e9 : ((l.length : Int) - 1).toNat = l.length - 1 := by omega
              conv => whnf
              refine ⟨?_, (j - 1, l ++ [mx (nxt f 8 + l.getD ((l.length : Int) - 1).toNat default) ((rel.getD ((rel.length : Int) - 1).toNat default).getD ((l.length : Int)).toNat default)], nxtD f 8), ⟨?_, ?_, ?_, ?_⟩, ?_, rfl, rfl, ?_, ?_⟩
              · (try conv => whnf)
                (repeat' (first | exact True.intro | exact fun _ h => h | refine inR64_of ?_ ?_ | apply And.intro | refine maxLen_ge ?_)) <;> (first | omega | (dsimp only; omega) | (dsimp only [List.length_cons, List.length_nil]; omega) | (intro hg; rw [hg]; rfl) | (intro hg hh; rw [hg, hh]; rfl) | (intro hg; simp [-List.getD_eq_getElem?_getD, -Int.default_eq_zero] at hg; first | omega | (refine inR64_of ?_ ?_ <;> omega) | (constructor <;> omega)) | (simp [-List.getD_eq_getElem?_getD, -Int.default_eq_zero]; done))
              · dsimp only; rw [List.length_append, List.length_cons, List.length_nil]; omega
              · rw [← i2]; dsimp only
                rw [show j = (j - 1) + 1 by omega]
                show it _ (j - 1) _ = it _ (j - 1) (cellN U (l, f))
                rw [show cellN U (l, f) = (l ++ [cellX U (l, f)], nxtD f 8) from rfl, hX]
              · rw [hX] at hrng; exact rowOK_push i3 hrng
              · dsimp only; rw [List.length_append, List.length_cons, List.length_nil]; omega
              · dsimp only; omega
              all_goals repeat' (first | exact True.intro | refine leF_cons rfl ?_ ?_ | refine leS_cons rfl ?_ ?_ | (show PLe _ _ _ _; conv => whnf) | (show SLe _ _ _ _; conv => whnf) | (show PLeL _ _ _ _; conv => whnf) | apply And.intro | rfl | exact Nat.le_refl _ | exact fun _ _ => rfl | exact rowEq0 _ _)
              all_goals first | omega | exact fl_push eInt l _ | (show _ + 1 = _; simp only [List.length_append, List.length_cons, List.length_nil]; done) | (dsimp only; rw [List.length_append]; simp only [List.length_cons, List.length_nil]; omega) | skip
            · simp only [bif_t, bif_f, decide_eq_true_eq, decide_eq_false_iff_not, Bool.not_eq_true', Bool.not_eq_false', Bool.and_eq_true, Bool.or_eq_true, Bool.and_eq_false_iff, Bool.or_eq_false_iff, beq_iff_eq, bne_iff_ne, beq_eq_false_iff_ne, bne_eq_false_iff_eq, reduceCtorEq, false_and, and_false, true_and, and_true, or_false, false_or, or_true, true_or, not_true_eq_false, not_false_eq_true, Int.toNat_zero] at hc4
              have hr0 : rel.length = 0 := by omega
              have hU := abO_zero hr0
              have hX : cellX U (l, f) = nxt f 8 + l.getD ((l.length : Int) - 1).toNat default := by
                show (match abO rel rel.length with | none => _ | some u => mx _ (u.getD l.length default)) = _
                rw [hU]
                dsimp only
                rw [if_pos hl0, show ((l.length : Int) - 1).toNat = l.length - 1 by omega]
              have e9 : ((l.length : Int) - 1).toNat = l.length - 1 := by omega
              conv => whnf
              refine ⟨?_, (j - 1, l ++ [nxt f 8 + l.getD ((l.length : Int) - 1).toNat default], nxtD f 8), ⟨?_, ?_, ?_, ?_⟩, ?_, rfl, rfl, ?_, ?_⟩
              · (try conv => whnf)
                (repeat' (first | exact True.intro | exact fun _ h => h | refine inR64_of ?_ ?_ | apply And.intro | refine maxLen_ge ?_)) <;> (first | omega | (dsimp only; omega) | (dsimp only [List.length_cons, List.length_nil]; omega) | (intro hg; rw [hg]; rfl) | (intro hg hh; rw [hg, hh]; rfl) | (intro hg; simp [-List.getD_eq_getElem?_getD, -Int.default_eq_zero] at hg; first | omega | (refine inR64_of ?_ ?_ <;> omega) | (constructor <;> omega)) | (simp [-List.getD_eq_getElem?_getD, -Int.default_eq_zero]; done))
              · dsimp only; rw [List.length_append, List.length_cons, List.length_nil]; omega
              · rw [← i2]; dsimp only
                rw [show j = (j - 1) + 1 by omega]
                show it _ (j - 1) _ = it _ (j - 1) (cellN U (l, f))
                rw [show cellN U (l, f) = (l ++ [cellX U (l, f)], nxtD f 8) from rfl, hX]
              · rw [hX] at hrng; exact rowOK_push i3 hrng
              · dsimp only; rw [List.length_append, List.length_cons, List.length_nil]; omega
              · dsimp only; omega
              all_goals repeat' (first | exact True.intro | refine leF_cons rfl ?_ ?_ | refine leS_cons rfl ?_ ?_ | (show PLe _ _ _ _; conv => whnf) | (show SLe _ _ _ _; conv => whnf) | (show PLeL _ _ _ _; conv => whnf) | apply And.intro | rfl | exact Nat.le_refl _ | exact fun _ _ => rfl | exact rowEq0 _ _)
              all_goals first | omega | exact fl_push eInt l _ | (show _ + 1 = _; simp only [List.length_append, List.length_cons, List.length_nil]; done) | (dsimp only; rw [List.length_append]; simp only [List.length_cons, List.length_nil]; omega) | skip
          · simp only [bif_t, bif_f, decide_eq_true_eq, decide_eq_false_iff_not, Bool.not_eq_true', Bool.not_eq_false', Bool.and_eq_true, Bool.or_eq_true, Bool.and_eq_false_iff, Bool.or_eq_false_iff, beq_iff_eq, bne_iff_ne, beq_eq_false_iff_ne, bne_eq_false_iff_eq, reduceCtorEq, false_and, and_false, true_and, and_true, or_false, false_or, or_true, true_or, not_true_eq_false, not_false_eq_true, Int.toNat_zero] at hc3
            have hl0 : ¬ 0 < l.length := by omega
            conv => whnf
            refine ⟨?_, fun hc4 => ?_, fun hc4 => ?_⟩
            · (try conv => whnf)
              (repeat' (first | exact True.intro | exact fun _ h => h | refine inR64_of ?_ ?_ | apply And.intro | refine maxLen_ge ?_)) <;> (first | omega | (dsimp only; omega) | (dsimp only [List.length_cons, List.length_nil]; omega) | (intro hg; rw [hg]; rfl) | (intro hg hh; rw [hg, hh]; rfl) | (intro hg; simp [-List.getD_eq_getElem?_getD, -Int.default_eq_zero] at hg; first | omega | (refine inR64_of ?_ ?_ <;> omega) | (constructor <;> omega)) | (simp [-List.getD_eq_getElem?_getD, -Int.default_eq_zero]; done))
            · simp only [bif_t, bif_f, decide_eq_true_eq, decide_eq_false_iff_not, Bool.not_eq_true', Bool.not_eq_false', Bool.and_eq_true, Bool.or_eq_true, Bool.and_eq_false_iff, Bool.or_eq_false_iff, beq_iff_eq, bne_iff_ne, beq_eq_false_iff_ne, bne_eq_false_iff_eq, reduceCtorEq, false_and, and_false, true_and, and_true, or_false, false_or, or_true, true_or, not_true_eq_false, not_false_eq_true, Int.toNat_zero] at hc4
              have hr0 : 0 < rel.length := by omega
              have hU := abO_pos hr0
              have hX : cellX U (l, f) = mx (nxt f 8) ((rel.getD ((rel.length : Int) - 1).toNat default).getD ((l.length : Int)).toNat default) := by
                show (match abO rel rel.length with | none => _ | some u => mx _ (u.getD l.length default)) = _
                rw [hU]
                dsimp only
                rw [if_neg hl0, show ((l.length : Int)).toNat = l.length by omega]
              have hup := (k3 ((rel.length : Int) - 1).toNat (by omega)).1
              have e7 : ((rel.length : Int) - 1).toNat = rel.length - 1 := by omega
              have e8 : ((l.length : Int)).toNat = l.length := by omega
              have e9 : ((l.length : Int) - 1).toNat = l.length - 1 := by omega
              conv => whnf
              refine ⟨?_, (j - 1, l ++ [mx (nxt f 8) ((rel.getD ((rel.length : Int) - 1).toNat default).getD ((l.length : Int)).toNat default)], nxtD f 8), ⟨?_, ?_, ?_, ?_⟩, ?_, rfl, rfl, ?_, ?_⟩
              · (try conv => whnf)
                (repeat' (first | exact True.intro | exact fun _ h => h | refine inR64_of ?_ ?_ | apply And.intro | refine maxLen_ge ?_)) <;> (first | omega | (dsimp only; omega) | (dsimp only [List.length_cons, List.length_nil]; omega) | (intro hg; rw [hg]; rfl) | (intro hg hh; rw [hg, hh]; rfl) | (intro hg; simp [-List.getD_eq_getElem?_getD, -Int.default_eq_zero] at hg; first | omega | (refine inR64_of ?_ ?_ <;> omega) | (constructor <;> omega)) | (simp [-List.getD_eq_getElem?_getD, -Int.default_eq_zero]; done))
              · dsimp only; rw [List.length_append, List.length_cons, List.length_nil]; omega
              · rw [← i2]; dsimp only
                rw [show j = (j - 1) + 1 by omega]
                show it _ (j - 1) _ = it _ (j - 1) (cellN U (l, f))
                rw [show cellN U (l, f) = (l ++ [cellX U (l, f)], nxtD f 8) from rfl, hX]
              · rw [hX] at hrng; exact rowOK_push i3 hrng
              · dsimp only; rw [List.length_append, List.length_cons, List.length_nil]; omega
              · dsimp only; omega
              all_goals repeat' (first | exact True.intro | refine leF_cons rfl ?_ ?_ | refine leS_cons rfl ?_ ?_ | (show PLe _ _ _ _; conv => whnf) | (show SLe _ _ _ _; conv => whnf) | (show PLeL _ _ _ _; conv => whnf) | apply And.intro | rfl | exact Nat.le_refl _ | exact fun _ _ => rfl | exact rowEq0 _ _)
              all_goals first | omega | exact fl_push eInt l _ | (show _ + 1 = _; simp only [List.length_append, List.length_cons, List.length_nil]; done) | (dsimp only; rw [List.length_append]; simp only [List.length_cons, List.length_nil]; omega) | skip
            · simp only [bif_t, bif_f, decide_eq_true_eq, decide_eq_false_iff_not, Bool.not_eq_true', Bool.not_eq_false', Bool.and_eq_true, Bool.or_eq_true, Bool.and_eq_false_iff, Bool.or_eq_false_iff, beq_iff_eq, bne_iff_ne, beq_eq_false_iff_ne, bne_eq_false_iff_eq, reduceCtorEq, false_and, and_false, true_and, and_true, or_false, false_or, or_true, true_or, not_true_eq_false, not_false_eq_true, Int.toNat_zero] at hc4
              have hr0 : rel.length = 0 := by omega
              have hU := abO_zero hr0
              have hX : cellX U (l, f) = nxt f 8 := by
                show (match abO rel rel.length with | none => _ | some u => mx _ (u.getD l.length default)) = _
                rw [hU]
                dsimp only
                rw [if_neg hl0]
              have e9 : ((l.length : Int) - 1).toNat = l.length - 1 := by omega
              conv => whnf
              refine ⟨?_, (j - 1, l ++ [nxt f 8], nxtD f 8), ⟨?_, ?_, ?_, ?_⟩, ?_, rfl, rfl, ?_, ?_⟩
              · (try conv => whnf)
                (repeat' (first | exact True.intro | exact fun _ h => h | refine inR64_of ?_ ?_ | apply And.intro | refine maxLen_ge ?_)) <;> (first | omega | (dsimp only; omega) | (dsimp only [List.length_cons, List.length_nil]; omega) | (intro hg; rw [hg]; rfl) | (intro hg hh; rw [hg, hh]; rfl) | (intro hg; simp [-List.getD_eq_getElem?_getD, -Int.default_eq_zero] at hg; first | omega | (refine inR64_of ?_ ?_ <;> omega) | (constructor <;> omega)) | (simp [-List.getD_eq_getElem?_getD, -Int.default_eq_zero]; done))
              · dsimp only; rw [List.length_append, List.length_cons, List.length_nil]; omega
              · rw [← i2]; dsimp only
                rw [show j = (j - 1) + 1 by omega]
                show it _ (j - 1) _ = it _ (j - 1) (cellN U (l, f))
                rw [show cellN U (l, f) = (l ++ [cellX U (l, f)], nxtD f 8) from rfl, hX]
              · rw [hX] at hrng; exact rowOK_push i3 hrng
              · dsimp only; rw [List.length_append, List.length_cons, List.length_nil]; omega
              · dsimp only; omega
              all_goals repeat' (first | exact True.intro | refine leF_cons rfl ?_ ?_ | refine leS_cons rfl ?_ ?_ | (show PLe _ _ _ _; conv => whnf) | (show SLe _ _ _ _; conv => whnf) | (show PLeL _ _ _ _; conv => whnf) | apply And.intro | rfl | exact Nat.le_refl _ | exact fun _ _ => rfl | exact rowEq0 _ _)
              all_goals first | omega | exact fl_push eInt l _ | (show _ + 1 = _; simp only [List.length_append, List.length_cons, List.length_nil]; done) | (dsimp only; rw [List.length_append]; simp only [List.length_cons, List.length_nil]; omega) | skip
        · replace hc2 := of_decide_eq_false hc2
          have hj0 : j = 0 := by
            have h : ¬ (l.length : Int) < B.l.length := hc2
            omega
          subst hj0
          have hrow : (l, f) = rowS U B.l.length e := i2
          have q := fl_push (eIs 0) rel l
          conv => whnf
          refine ⟨?_, (m - 1, rel ++ [l], f), ⟨?_, ?_, ?_, ?_⟩, ?_, rfl, rfl, ?_, ?_⟩
          · (try conv => whnf)
            (repeat' (first | exact True.intro | exact fun _ h => h | refine inR64_of ?_ ?_ | apply And.intro | refine maxLen_ge ?_)) <;> (first | omega | (dsimp only; omega) | (dsimp only [List.length_cons, List.length_nil]; omega) | (intro hg; rw [hg]; rfl) | (intro hg hh; rw [hg, hh]; rfl) | (intro hg; simp [-List.getD_eq_getElem?_getD, -Int.default_eq_zero] at hg; first | omega | (refine inR64_of ?_ ?_ <;> omega) | (constructor <;> omega)) | (simp [-List.getD_eq_getElem?_getD, -Int.default_eq_zero]; done))
          · dsimp only; rw [List.length_append, List.length_cons, List.length_nil]; omega
          · rw [← k2]; dsimp only
            rw [show m = (m - 1) + 1 by omega]
            show it _ (m - 1) _ = it _ (m - 1) (tabN B.l.length (rel, e))
            have h2 : tabN B.l.length (rel, e) = (rel ++ [(rowS U B.l.length e).1], (rowS U B.l.length e).2) := rfl
            rw [h2, ← hrow]
          · exact relOK_push k3 (by omega) i3
          · dsimp only; rw [List.length_append, List.length_cons, List.length_nil]; omega
          · dsimp only; omega
          all_goals repeat' (first | exact True.intro | refine leF_cons rfl ?_ ?_ | refine leS_cons rfl ?_ ?_ | (show PLe _ _ _ _; conv => whnf) | (show SLe _ _ _ _; conv => whnf) | (show PLeL _ _ _ _; conv => whnf) | apply And.intro | rfl | exact Nat.le_refl _ | exact fun _ _ => rfl | exact rowEq0 _ _)
          all_goals first | omega | exact q | (show _ + 1 = _; simp only [List.length_append, List.length_cons, List.length_nil]; done) | (dsimp only; rw [List.length_append]; simp only [List.length_cons, List.length_nil]; omega) | skip
    · replace hc := of_decide_eq_false hc
      have hm : m = 0 := by
        have h : ¬ (rel.length : Int) < A.l.length := hc
        omega
      subst hm
      rw [← k2]
      conv => whnf
      refine ⟨?_, [], ?_⟩
      · (try conv => whnf)
        (repeat' (first | exact True.intro | exact fun _ h => h | refine inR64_of ?_ ?_ | apply And.intro | refine maxLen_ge ?_)) <;> (first | omega | (dsimp only; omega) | (dsimp only [List.length_cons, List.length_nil]; omega) | (intro hg; rw [hg]; rfl) | (intro hg hh; rw [hg, hh]; rfl) | (intro hg; simp [-List.getD_eq_getElem?_getD, -Int.default_eq_zero] at hg; first | omega | (refine inR64_of ?_ ?_ <;> omega) | (constructor <;> omega)) | (simp [-List.getD_eq_getElem?_getD, -Int.default_eq_zero]; done))
      conv => whnf
      refine ⟨rfl, ?_, ?_, trivial⟩
      all_goals repeat' (first | exact True.intro | refine leF_cons rfl ?_ ?_ | refine leS_cons rfl ?_ ?_ | (show PLe _ _ _ _; conv => whnf) | (show SLe _ _ _ _; conv => whnf) | (show PLeL _ _ _ _; conv => whnf) | apply And.intro | rfl | exact Nat.le_refl _ | exact fun _ _ => rfl | exact rowEq0 _ _)
end Pv
end Go.Proofs.YtcfcmafmdpbjoaaDoor

/- LAW 24, PLAIN: made tables are valid; releases rise. -/
set_option linter.unusedSimpArgs false
set_option linter.unusedVariables false
namespace Go.Proofs.YtcfcmafmdpbjoaaDoor
namespace Pv

theorem getD_push {α : Type} [Inhabited α] {l : List α} {x : α} {k : Nat} (hk : k < l.length) : (l ++ [x]).getD k default = l.getD k default := by
  rw [List.getD_eq_getElem?_getD, List.getD_eq_getElem?_getD, List.getElem?_append_left hk]
theorem getD_last {α : Type} [Inhabited α] {l : List α} {x : α} : (l ++ [x]).getD l.length default = x := by
  rw [List.getD_eq_getElem?_getD, List.getElem?_append_right (Nat.le_refl _), Nat.sub_self]; rfl

theorem scan_none {f : Nat → Int} : ∀ {n i : Nat}, (∀ k, i ≤ k → k < i + n → f k = 0) → scan f i n = 0
  | 0, i, _ => rfl
  | n + 1, i, h => by
    unfold scan
    rw [if_neg (by rw [h i (Nat.le_refl _) (by omega)]; exact fun h => h rfl)]
    exact scan_none fun k h1 h2 => h k (by omega) (by omega)
/-! ### levels and inflows -/
structure AxOK (s : Axs) : Prop where
  x0 : 0 ≤ s.x
  rng : ∀ i, i < s.l.length → 0 ≤ s.l.getD i default ∧ s.l.getD i default < s.x
  up : ∀ i, 0 < i → i < s.l.length → s.l.getD (i - 1) default < s.l.getD i default
theorem axN_ok {step : Int} {s : Axs} (h1 : 1 ≤ step) (h : AxOK s) : AxOK (axN step s) ∧ (axN step s).x ≤ s.x + step := by
  have r := nxt_lt s.d (n := step) (by omega)
  have hx := h.x0
  refine ⟨⟨by show 0 ≤ s.x + (1 + nxt s.d step); omega, fun i hi => ?_, fun i h0 hi => ?_⟩, by show s.x + (1 + nxt s.d step) ≤ _; omega⟩
  · show 0 ≤ (s.l ++ [s.x]).getD i default ∧ (s.l ++ [s.x]).getD i default < s.x + (1 + nxt s.d step)
    have hi2 : i < s.l.length + 1 := by simpa [axN] using hi
    by_cases hk : i < s.l.length
    · rw [getD_push hk]; have := h.rng i hk; omega
    · rw [show i = s.l.length by omega, getD_last]; omega
  · show (s.l ++ [s.x]).getD (i - 1) default < (s.l ++ [s.x]).getD i default
    have hi2 : i < s.l.length + 1 := by simpa [axN] using hi
    by_cases hk : i < s.l.length
    · rw [getD_push hk, getD_push (by omega)]; exact h.up i h0 hk
    · have hi3 : i = s.l.length := by omega
      subst hi3
      rw [getD_last, getD_push (by omega)]; exact (h.rng _ (by omega)).2
theorem axI_ok {step : Int} (h1 : 1 ≤ step) : ∀ (k : Nat) (s : Axs), AxOK s → AxOK (axI step k s) ∧ (axI step k s).x ≤ s.x + step * k
  | 0, s, h => ⟨h, by show s.x ≤ _; simp⟩
  | k + 1, s, h => by
    obtain ⟨g1, g2⟩ := axN_ok h1 h
    obtain ⟨g3, g4⟩ := axI_ok h1 k (axN step s) g1
    refine ⟨g3, ?_⟩
    show (axI step k (axN step s)).x ≤ _
    rw [Int.natCast_add, Int.mul_add]
    simp only [Int.natCast_one, Int.mul_one]
    omega
theorem axis_rise {d : Dk} {start step most : Int} (h0 : 0 ≤ start) (h1 : 1 ≤ step) (hm : start + step + step * 4 ≤ most) : ∀ i, i < (axisS d start step).l.length → riseE (axisS d start step).l most i = 0 := fun i hi => by
  have r := nxt_lt d (n := step) (by omega)
  have r2 := nxt_lt (nxtD d step) (n := 4) (by omega)
  have hs : AxOK ⟨[], start + nxt d step, nxtD (nxtD d step) 4⟩ := ⟨by dsimp only; omega, fun i hi => absurd hi (Nat.not_lt_zero _), fun i _ hi => absurd hi (Nat.not_lt_zero _)⟩
  obtain ⟨g1, g2⟩ := axI_ok h1 ((nxt (nxtD d step) 4).toNat + 1) _ hs
  have g3 := g1.rng i hi
  have g4 : (0 < i) → _ := fun h => g1.up i h hi
  have hb : step * (((nxt (nxtD d step) 4).toNat + 1 : Nat) : Int) ≤ step * 4 := Int.mul_le_mul_of_nonneg_left (by omega) (by omega)
  dsimp only at g2
  change riseE (axI step ((nxt (nxtD d step) 4).toNat + 1) ⟨[], start + nxt d step, nxtD (nxtD d step) 4⟩).l most i = 0
  unfold riseE
  rw [if_neg (by omega), if_neg (by omega)]

/-! ### releases -/
def RS (up : Option (List Int)) (l : List Int) : Prop := ∀ k, k < l.length → 0 ≤ l.getD k default ∧ l.getD k default ≤ 7 * ((k : Int) + 1) ∧ (0 < k → l.getD (k - 1) default ≤ l.getD k default) ∧ ∀ u, up = some u → u.getD k default ≤ l.getD k default
theorem RS.ok {up : Option (List Int)} {l : List Int} (h : RS up l) : RowOK l := fun k hk => ⟨(h k hk).1, (h k hk).2.1⟩
theorem cell_up {up : Option (List Int)} {l : List Int} {d : Dk} (hl : RowOK l) : (0 < l.length → l.getD (l.length - 1) default ≤ cellX up (l, d)) ∧ ∀ u, up = some u → u.getD l.length default ≤ cellX up (l, d) := by
  have r := nxt_lt d (n := 8) (by omega)
  unfold cellX
  dsimp only
  refine ⟨fun h => ?_, fun u hu => ?_⟩
  · rw [if_pos h]
    cases up with
    | none => dsimp only; omega
    | some u => dsimp only; unfold mx; split <;> omega
  · rw [hu]; dsimp only; unfold mx; split <;> omega
theorem RS.push {up : Option (List Int)} {l : List Int} {d : Dk} (h : RS up l) (hu : ∀ u, up = some u → l.length < u.length ∧ RowOK u) : RS up (l ++ [cellX up (l, d)]) := fun k hk => by
  rw [List.length_append, List.length_cons, List.length_nil] at hk
  by_cases hk2 : k < l.length
  · obtain ⟨a, b, c, e⟩ := h k hk2
    rw [getD_push hk2]
    refine ⟨a, b, fun h0 => ?_, e⟩
    rw [getD_push (by omega)]; exact c h0
  · have hk3 : k = l.length := by omega
    subst hk3
    obtain ⟨a, b⟩ := cell_rng (d := d) h.ok hu
    obtain ⟨c, e⟩ := cell_up (up := up) (d := d) h.ok
    rw [getD_last]
    refine ⟨a, b, fun h0 => ?_, e⟩
    rw [getD_push (by omega)]; exact c h0
theorem it_row {up : Option (List Int)} {n : Nat} (hu : ∀ u, up = some u → n ≤ u.length ∧ RowOK u) : ∀ (m : Nat) (l : List Int) (d : Dk), RS up l → l.length + m = n → RS up (it (cellN up) m (l, d)).1 ∧ (it (cellN up) m (l, d)).1.length = n
  | 0, l, d, h, hm => ⟨h, by show l.length = n; omega⟩
  | m + 1, l, d, h, hm => it_row hu m _ _ (h.push fun u hh => ⟨by have := (hu u hh).1; omega, (hu u hh).2⟩) (by dsimp only; rw [List.length_append, List.length_cons, List.length_nil]; omega)
def RelS (n : Nat) (rel : List (List Int)) : Prop := ∀ j, j < rel.length → (rel.getD j default).length = n ∧ RS (abO rel j) (rel.getD j default)
theorem abO_push {rel : List (List Int)} {l : List Int} {j : Nat} (h : j ≤ rel.length) : abO (rel ++ [l]) j = abO rel j := by
  cases j with
  | zero => rfl
  | succ k => show some _ = some _; rw [getD_push (by omega)]
theorem RelS.push {n : Nat} {rel : List (List Int)} {d : Dk} (h : RelS n rel) : RelS n (tabN n (rel, d)).1 := fun j hj => by
  have hup : ∀ u, abO rel rel.length = some u → n ≤ u.length ∧ RowOK u := fun u hu => by
    cases hl : rel.length with
    | zero => rw [hl] at hu; cases hu
    | succ k =>
      rw [hl] at hu
      injection hu with hu; subst hu
      obtain ⟨a, b⟩ := h k (by omega)
      exact ⟨by omega, b.ok⟩
  have hrow := it_row hup n [] d (fun k hk => absurd hk (Nat.not_lt_zero _)) (by simp)
  show ((rel ++ [(rowS (abO rel rel.length) n d).1]).getD j default).length = n ∧ RS (abO (rel ++ [(rowS (abO rel rel.length) n d).1]) j) ((rel ++ [(rowS (abO rel rel.length) n d).1]).getD j default)
  have hj2 : j < rel.length + 1 := by simpa [tabN] using hj
  rw [abO_push (by omega)]
  by_cases hk : j < rel.length
  · rw [getD_push hk]; exact h j hk
  · have hk3 : j = rel.length := by omega
    subst hk3
    rw [getD_last]; exact ⟨hrow.2, hrow.1⟩
theorem it_tab {n : Nat} : ∀ (m : Nat) (rel : List (List Int)) (d : Dk), RelS n rel → RelS n (it (tabN n) m (rel, d)).1 ∧ (it (tabN n) m (rel, d)).1.length = rel.length + m
  | 0, rel, d, h => ⟨h, rfl⟩
  | m + 1, rel, d, h => by
    obtain ⟨a, b⟩ := it_tab m _ (tabN n (rel, d)).2 (h.push (d := d))
    refine ⟨a, ?_⟩
    show (it (tabN n) m (tabN n (rel, d))).1.length = _
    have e : (tabN n (rel, d)).1.length = rel.length + 1 := by simp [tabN]
    have b2 : (it (tabN n) m (tabN n (rel, d))).1.length = (tabN n (rel, d)).1.length + m := b
    omega
theorem RelS.zero {n : Nat} {t : FT} (h : RelS n t.rel) (hn : t.inf.length = n) (hn4 : n ≤ 1000) : ∀ i, i < t.rel.length → relE t i = 0 := fun i hi => by
  obtain ⟨a, b⟩ := h i hi
  unfold relE rowF
  rw [if_neg (by omega)]
  refine (scan_none fun k _ hk => ?_)
  obtain ⟨c, e, f, g⟩ := b k (by omega)
  have hund : under (t.rel.getD i default) (abO t.rel i) k = false := by
    unfold under
    split
    · rfl
    · rename_i u hu
      have := g u hu
      exact decide_eq_false (by omega)
  unfold rowE
  rw [if_neg (by omega), if_neg]
  rw [hund]
  rintro (⟨h1, h2⟩ | h)
  · have := f h1; omega
  · cases h
theorem tabF_parts (d : Dk) : (tabF d).1.lv = (axisS d 90 40).l ∧ (tabF d).1.inf = (axisS (axisS d 90 40).d 0 12).l ∧ (tabF d).1.rel = (it (tabN (axisS (axisS d 90 40).d 0 12).l.length) (axisS d 90 40).l.length ([], (axisS (axisS d 90 40).d 0 12).d)).1 := ⟨rfl, rfl, rfl⟩
theorem tab_ok (d : Dk) : checkF (tabF d).1 = 0 := by
  obtain ⟨e1, e2, e3⟩ := tabF_parts d
  have a1 := axisS_at d 90 40
  have a2 := axisS_at (axisS d 90 40).d 0 12
  have b1 := axis_rise (d := d) (start := 90) (step := 40) (most := 16777216) (by decide) (by decide) (by decide)
  have b2 := axis_rise (d := (axisS d 90 40).d) (start := 0) (step := 12) (most := 1073741824) (by decide) (by decide) (by decide)
  have c := it_tab (n := (axisS (axisS d 90 40).d 0 12).l.length) (axisS d 90 40).l.length [] (axisS (axisS d 90 40).d 0 12).d (fun j hj => absurd hj (Nat.not_lt_zero _))
  have z := RelS.zero (t := (tabF d).1) (n := (axisS (axisS d 90 40).d 0 12).l.length) (by rw [e3]; exact c.1) (by rw [e2]) (by omega)
  have z1 : scan (riseE (tabF d).1.lv 16777216) 0 (tabF d).1.lv.length = 0 := scan_none fun k _ hk => by rw [e1] at hk ⊢; exact b1 k (by omega)
  have z2 : scan (riseE (tabF d).1.inf 1073741824) 0 (tabF d).1.inf.length = 0 := scan_none fun k _ hk => by rw [e2] at hk ⊢; exact b2 k (by omega)
  have z3 : scan (relE (tabF d).1) 0 (tabF d).1.rel.length = 0 := scan_none fun k _ hk => z k (by omega)
  have hlen : (tabF d).1.rel.length = (tabF d).1.lv.length := by rw [e3, e1, c.2]; simp
  unfold checkF
  rw [if_neg (by rw [e1, e2]; omega), z1, z2, z3]
  simp [hlen]
end Pv
end Go.Proofs.YtcfcmafmdpbjoaaDoor

/- LAW 24: releases rise (FloodtableRises). -/
set_option linter.unusedSimpArgs false
set_option linter.unusedVariables false
namespace Go.Proofs.YtcfcmafmdpbjoaaDoor
namespace Pv
def c5L2 : C := (.seq (.reg [⟨(some 63), 1008, none, .bi false .lss (.t 62) (.t 61)⟩])
  (.seq (.cond (.t 63) .skip (.exit 2))
  (.seq (.block 3 (.seq (.reg [⟨(some 64), 1024, none, .ia 1 (.t 60) (.t 62)⟩,
    ⟨(some 65), 1040, none, .ld 1 false (.t 64)⟩,
    ⟨(some 20), 320, none, .mv (.t 65)⟩])
  (.reg [⟨(some 66), 1056, none, .mv (.t 16)⟩,
    ⟨(some 67), 1072, none, .mv (.t 66)⟩,
    ⟨(some 68), 1088, (some (67, false)), .mv (.t 20)⟩,
    ⟨(some 69), 1104, (some (67, false)), .mv (.t 12)⟩,
    ⟨(some 70), 1120, (some (67, false)), .bi false .eql (.t 68) (.t 69)⟩,
    ⟨(some 71), 1136, none, .pick (.t 67) (.c (.bool true)) (.t 70)⟩,
    ⟨(some 16), 256, none, .mv (.t 71)⟩])))
  (.reg [⟨(some 72), 1152, none, .bi false .add (.t 62) (.c (.int .i64 1))⟩,
    ⟨(some 62), 992, none, .mv (.t 72)⟩]))))
def c5L1 : C := (.seq (.reg [⟨(some 57), 912, none, .bi false .lss (.t 56) (.t 55)⟩])
  (.seq (.cond (.t 57) .skip (.exit 0))
  (.seq (.block 1 (.seq (.reg [⟨(some 58), 928, none, .ia 1 (.t 54) (.t 56)⟩,
    ⟨(some 59), 944, none, .ld 1 false (.t 58)⟩,
    ⟨(some 18), 288, none, .mv (.t 59)⟩])
  (.seq (.reg [⟨(some 60), 960, none, .mv (.t 18)⟩,
    ⟨(some 61), 976, none, .len (.t 60)⟩,
    ⟨(some 62), 992, none, .mv (.c (.int .i64 0))⟩])
  (.block 2 (.loop c5L2)))))
  (.reg [⟨(some 73), 1168, none, .bi false .add (.t 56) (.c (.int .i64 1))⟩,
    ⟨(some 56), 896, none, .mv (.t 73)⟩]))))
def c5 : C := (.seq (.reg [⟨(some 10), 160, none, .mv (.c (.bool false))⟩])
  (.seq (.seq (.reg [⟨(some 21), 336, none, .call (.c (.fn (.func 8) [] [])) []⟩,
    ⟨(some 22), 352, none, .un false .not (.t 21)⟩])
  (.cond (.t 22) (.seq (.reg [⟨(some 10), 160, none, .mv (.c (.bool false))⟩])
  .ret) .skip))
  (.seq (.seq (.reg [⟨(some 23), 368, none, .mv (.t 0)⟩,
    ⟨(some 24), 384, none, .call (.c (.fn (.func 9) [] [])) [(.t 23)]⟩,
    ⟨(some 25), 400, none, .un false .not (.t 24)⟩])
  (.cond (.t 25) (.seq (.reg [⟨(some 10), 160, none, .mv (.c (.bool true))⟩])
  .ret) .skip))
  (.seq (.reg [⟨(some 26), 416, none, .mv (.t 0)⟩,
    ⟨(some 27), 432, none, .call (.c (.fn (.func 12) [] [])) [(.t 26)]⟩,
    ⟨(some 28), 448, none, .call (.c (.fn (.func 11) [] [])) [(.t 27)]⟩,
    ⟨(some 11), 176, none, .al [(.nil 1), (.nil 1), (.nil 1)]⟩,
    ⟨none, 0, none, .st 3 (.t 11) (.t 28)⟩])
  (.seq (.reg [⟨(some 30), 480, none, .ld 3 true (.t 11)⟩,
    ⟨(some 31), 496, none, .mv (.t 1)⟩,
    ⟨(some 32), 512, none, .cv false .i64 (.t 31)⟩,
    ⟨(some 33), 528, none, .mv (.t 2)⟩,
    ⟨(some 34), 544, none, .cv false .i64 (.t 33)⟩,
    ⟨(some 35), 560, none, .call (.c (.fn (.func 19) [] [])) [(.t 30), (.t 32), (.t 34)]⟩,
    ⟨(some 29), 464, none, .mv (.t 35)⟩,
    ⟨(some 36), 576, none, .ex (.t 29) 0⟩,
    ⟨(some 37), 592, none, .ex (.t 29) 1⟩,
    ⟨(some 12), 192, none, .mv (.t 36)⟩,
    ⟨(some 13), 208, none, .mv (.t 37)⟩])
  (.seq (.reg [⟨(some 39), 624, none, .ld 3 true (.t 11)⟩,
    ⟨(some 40), 640, none, .mv (.t 1)⟩,
    ⟨(some 41), 656, none, .cv false .i64 (.t 40)⟩,
    ⟨(some 42), 672, none, .mv (.t 3)⟩,
    ⟨(some 43), 688, none, .cv false .i64 (.t 42)⟩,
    ⟨(some 44), 704, none, .bi false .add (.t 41) (.t 43)⟩,
    ⟨(some 45), 720, none, .mv (.t 2)⟩,
    ⟨(some 46), 736, none, .cv false .i64 (.t 45)⟩,
    ⟨(some 47), 752, none, .mv (.t 4)⟩,
    ⟨(some 48), 768, none, .cv false .i64 (.t 47)⟩,
    ⟨(some 49), 784, none, .bi false .add (.t 46) (.t 48)⟩,
    ⟨(some 50), 800, none, .call (.c (.fn (.func 19) [] [])) [(.t 39), (.t 44), (.t 49)]⟩,
    ⟨(some 38), 608, none, .mv (.t 50)⟩,
    ⟨(some 51), 816, none, .ex (.t 38) 0⟩,
    ⟨(some 52), 832, none, .ex (.t 38) 1⟩,
    ⟨(some 14), 224, none, .mv (.t 51)⟩,
    ⟨(some 15), 240, none, .mv (.t 52)⟩])
  (.seq (.reg [⟨(some 16), 256, none, .mv (.c (.bool false))⟩])
  (.seq (.seq (.reg [⟨(some 53), 848, none, .fa 2 (.t 11)⟩,
    ⟨(some 54), 864, none, .ld 1 false (.t 53)⟩,
    ⟨(some 55), 880, none, .len (.t 54)⟩,
    ⟨(some 56), 896, none, .mv (.c (.int .i64 0))⟩])
  (.block 0 (.loop c5L1)))
  (.seq (.reg [⟨(some 74), 1184, none, .mv (.t 13)⟩,
    ⟨(some 75), 1200, none, .bi false .eql (.t 74) (.c (.int .i64 0))⟩,
    ⟨(some 76), 1216, none, .mv (.t 75)⟩,
    ⟨(some 77), 1232, (some (76, true)), .mv (.t 15)⟩,
    ⟨(some 78), 1248, (some (76, true)), .bi false .eql (.t 77) (.c (.int .i64 0))⟩,
    ⟨(some 79), 1264, none, .pick (.t 76) (.t 78) (.c (.bool false))⟩,
    ⟨(some 80), 1280, none, .mv (.t 79)⟩,
    ⟨(some 81), 1296, (some (80, true)), .mv (.t 12)⟩,
    ⟨(some 82), 1312, (some (80, true)), .mv (.t 14)⟩,
    ⟨(some 83), 1328, (some (80, true)), .bi false .leq (.t 81) (.t 82)⟩,
    ⟨(some 84), 1344, none, .pick (.t 80) (.t 83) (.c (.bool false))⟩,
    ⟨(some 85), 1360, none, .mv (.t 84)⟩,
    ⟨(some 86), 1376, (some (85, true)), .mv (.t 16)⟩,
    ⟨(some 87), 1392, none, .pick (.t 85) (.t 86) (.c (.bool false))⟩,
    ⟨(some 10), 160, none, .mv (.t 87)⟩])
  .ret)))))))))
theorem fits5 : fits Tryd.prog false Tryd.f5 5 88 [(10, none)] = some c5.er := by kernel_rfl

theorem fstN_spec {p : Nat → Prop} [DecidablePred p] : ∀ {k i : Nat}, (∀ j, i ≤ j → j < fstN p i k → ¬ p j) ∧ (fstN p i k < i + k → p (fstN p i k))
  | 0, i => ⟨fun j h1 h2 => by unfold fstN at h2; omega, fun h => by unfold fstN at h; omega⟩
  | k + 1, i => by
    obtain ⟨g1, g2⟩ := fstN_spec (p := p) (k := k) (i := i + 1)
    unfold fstN
    by_cases h : p i
    · rw [if_pos h]
      exact ⟨fun j h1 h2 => by omega, fun _ => h⟩
    · rw [if_neg h]
      refine ⟨fun j h1 h2 => ?_, fun h3 => g2 (by omega)⟩
      rcases Nat.lt_or_ge i j with h4 | h4
      · exact g1 j h4 h2
      · rw [show j = i by omega]; exact h
theorem place_mono {l : List Int} {x y : Int} (h : x ≤ y) : placeF l x ≤ placeF l y := by
  have h1 := fstN_spec (p := fun i => x < l.getD i default) (k := l.length) (i := 0)
  have h2 := fstN_spec (p := fun i => y < l.getD i default) (k := l.length) (i := 0)
  have h3 := fstN_le (fun i => x < l.getD i default) l.length 0
  have hle : fstN (fun i => x < l.getD i default) 0 l.length ≤ fstN (fun i => y < l.getD i default) 0 l.length := by
    rcases Nat.lt_or_ge (fstN (fun i => y < l.getD i default) 0 l.length) (fstN (fun i => x < l.getD i default) 0 l.length) with h4 | h4
    · have h5 := h2.2 (by omega)
      exact absurd (show x < _ by omega) (h1.1 _ (Nat.zero_le _) h4)
    · exact h4
  unfold placeF mx
  split <;> split <;> omega
theorem TabOK.steps {t : FT} (h : TabOK t) {i : Nat} (hi : i < t.rel.length) {k : Nat} (hk : k < t.inf.length) : (0 < k → (t.rel.getD i default).getD (k - 1) default ≤ (t.rel.getD i default).getD k default) ∧
    (0 < i → (t.rel.getD (i - 1) default).getD k default ≤ (t.rel.getD i default).getD k default) := by
  have h0 := h.row hi
  have h1 := h.e3 i hi
  unfold relE rowF at h1
  split at h1
  · cases h1
  · have h2 := scan_all h1 k (by omega)
    unfold rowE at h2
    split at h2
    · cases h2
    · split at h2
      · cases h2
      · rename_i h3
        refine ⟨fun hk0 => ?_, fun hi0 => ?_⟩
        · exact Int.not_lt.1 fun h4 => h3 (.inl ⟨hk0, h4⟩)
        · refine Int.not_lt.1 fun h4 => h3 (.inr ?_)
          obtain ⟨j, rfl⟩ : ∃ j, i = j + 1 := ⟨i - 1, by omega⟩
          exact decide_eq_true h4
theorem TabOK.along {t : FT} (h : TabOK t) {i : Nat} (hi : i < t.rel.length) {k : Nat} : ∀ m, k + m < t.inf.length → (t.rel.getD i default).getD k default ≤ (t.rel.getD i default).getD (k + m) default
  | 0, _ => Int.le_refl _
  | m + 1, hm => by
    have h1 := h.along hi (k := k) m (by omega)
    have h2 := (h.steps hi (k := k + (m + 1)) hm).1 (by omega)
    rw [show k + (m + 1) - 1 = k + m by omega] at h2
    omega
theorem TabOK.down {t : FT} (h : TabOK t) {i k : Nat} (hk : k < t.inf.length) : ∀ m, i + m < t.rel.length → (t.rel.getD i default).getD k default ≤ (t.rel.getD (i + m) default).getD k default
  | 0, _ => Int.le_refl _
  | m + 1, hm => by
    have h1 := h.down (i := i) hk m (by omega)
    have h2 := (h.steps (i := i + (m + 1)) hm hk).2 (by omega)
    rw [show i + (m + 1) - 1 = i + m by omega] at h2
    omega
theorem at_mono {t : FT} (h : TabOK t) {a a' b b' : Int} (h1 : a ≤ a') (h2 : b ≤ b') : atF t a b ≤ atF t a' b' := by
  have hl1 := h.l1
  have hl2 := h.l2
  have hl3 := h.l3
  have p1 := place_rng a (l := t.lv) (by omega)
  have p2 := place_rng b (l := t.inf) (by omega)
  have p3 := place_rng a' (l := t.lv) (by omega)
  have p4 := place_rng b' (l := t.inf) (by omega)
  have m1 := place_mono (l := t.lv) h1
  have m2 := place_mono (l := t.inf) h2
  have d1 := h.down (i := (placeF t.lv a).toNat) (k := (placeF t.inf b).toNat) p2.2 ((placeF t.lv a').toNat - (placeF t.lv a).toNat) (by omega)
  have d2 := h.along (i := (placeF t.lv a').toNat) (by omega) (k := (placeF t.inf b).toNat) ((placeF t.inf b').toNat - (placeF t.inf b).toNat) (by omega)
  rw [show (placeF t.lv a).toNat + ((placeF t.lv a').toNat - (placeF t.lv a).toNat) = (placeF t.lv a').toNat by omega] at d1
  rw [show (placeF t.inf b).toNat + ((placeF t.inf b').toNat - (placeF t.inf b).toNat) = (placeF t.inf b').toNat by omega] at d2
  unfold atF
  omega
def foundF (rel : List (List Int)) (x : Int) : Bool := rel.any fun l => l.any fun n => n == x
theorem at_found {t : FT} (h : TabOK t) (a b : Int) : foundF t.rel (atF t a b) = true := by
  have hl1 := h.l1
  have hl2 := h.l2
  have hl3 := h.l3
  have p1 := place_rng a (l := t.lv) (by omega)
  have p2 := place_rng b (l := t.inf) (by omega)
  have hr := h.row (i := (placeF t.lv a).toNat) (by omega)
  refine List.any_eq_true.2 ⟨_, getD_mem (i := (placeF t.lv a).toNat) (by omega), List.any_eq_true.2 ⟨_, getD_mem (i := (placeF t.inf b).toNat) (by omega), ?_⟩⟩
  exact beq_self_eq_true _
theorem any_take {α : Type} [Inhabited α] {l : List α} {p : α → Bool} {i : Nat} (h : i < l.length) : (l.take (i + 1)).any p = ((l.take i).any p || p (l.getD i default)) := by
  rw [List.take_succ_eq_append_getElem h, List.any_append]
  simp [List.getD, h]

set_option maxRecDepth 100000 in
set_option maxHeartbeats 16000000 in
theorem call5 (l : List Int) (level inflow up more : Int) (h1 : 0 ≤ level ∧ level ≤ 65535) (h2 : 0 ≤ inflow ∧ inflow ≤ 65535) (h3 : 0 ≤ up ∧ up ≤ 65535) (h4 : 0 ≤ more ∧ more ≤ 65535) :
    PureCall Tryd.prog 5 [.sl 1 1 l.length (fl eInt l), .int .u16 level, .int .u16 inflow, .int .u16 up, .int .u16 more] [] ⟨.bool true, [], []⟩ := by
  refine pure_call mix Tryd.func5 fits5 rfl ?_
  conv => whnf
  refine ⟨_, fun _ => call8, ?_⟩
  conv => whnf
  refine ⟨?_, fun h => absurd h Bool.false_ne_true, fun _ => ?_⟩
  · (try conv => whnf)
    (repeat' (first | exact True.intro | exact fun _ h => h | refine inR64_of ?_ ?_ | apply And.intro | refine maxLen_ge ?_)) <;> (first | omega | (dsimp only; omega) | (dsimp only [List.length_cons, List.length_nil]; omega) | (intro hg; rw [hg]; rfl) | (intro hg hh; rw [hg, hh]; rfl) | (intro hg; simp [-List.getD_eq_getElem?_getD, -Int.default_eq_zero] at hg; first | omega | (refine inR64_of ?_ ?_ <;> omega) | (constructor <;> omega)) | (simp [-List.getD_eq_getElem?_getD, -Int.default_eq_zero]; done))
  conv => whnf
  refine ⟨_, fun _ => call9 1 l, ?_⟩
  conv => whnf
  refine ⟨?_, fun hc => ?_, fun hc => ?_⟩
  · (try conv => whnf)
    (repeat' (first | exact True.intro | exact fun _ h => h | refine inR64_of ?_ ?_ | apply And.intro | refine maxLen_ge ?_)) <;> (first | omega | (dsimp only; omega) | (dsimp only [List.length_cons, List.length_nil]; omega) | (intro hg; rw [hg]; rfl) | (intro hg hh; rw [hg, hh]; rfl) | (intro hg; simp [-List.getD_eq_getElem?_getD, -Int.default_eq_zero] at hg; first | omega | (refine inR64_of ?_ ?_ <;> omega) | (constructor <;> omega)) | (simp [-List.getD_eq_getElem?_getD, -Int.default_eq_zero]; done))
  · conv => whnf
    refine ⟨?_, [], ?_⟩
    · (try conv => whnf)
      (repeat' (first | exact True.intro | exact fun _ h => h | refine inR64_of ?_ ?_ | apply And.intro | refine maxLen_ge ?_)) <;> (first | omega | (dsimp only; omega) | (dsimp only [List.length_cons, List.length_nil]; omega) | (intro hg; rw [hg]; rfl) | (intro hg hh; rw [hg, hh]; rfl) | (intro hg; simp [-List.getD_eq_getElem?_getD, -Int.default_eq_zero] at hg; first | omega | (refine inR64_of ?_ ?_ <;> omega) | (constructor <;> omega)) | (simp [-List.getD_eq_getElem?_getD, -Int.default_eq_zero]; done))
    conv => whnf
    refine ⟨rfl, ?_, trivial, trivial⟩
    all_goals repeat' (first | exact True.intro | refine leF_cons rfl ?_ ?_ | refine leS_cons rfl ?_ ?_ | (show PLe _ _ _ _; conv => whnf) | (show SLe _ _ _ _; conv => whnf) | (show PLeL _ _ _ _; conv => whnf) | apply And.intro | rfl | exact Nat.le_refl _ | exact fun _ _ => rfl | exact rowEq0 _ _)
  conv => whnf
  refine ⟨_, fun _ => call_new 1 l, ?_⟩
  conv => whnf
  refine ⟨_, fun _ => call11 ⟨l, 0⟩ (by dsimp only; omega), ?_⟩
  have hok0 := tab_ok ⟨l, 0⟩
  generalize (tabF ⟨l, 0⟩).2 = D
  generalize (tabF ⟨l, 0⟩).1 = t at hok0 ⊢
  have hok := check_ok hok0
  have l1 := hok.l1
  have l2 := hok.l2
  have l3 := hok.l3
  have hrow := fun i hi => hok.row (i := i) hi
  have b4 : ∀ i, i < t.rel.length → (t.rel.getD i default).length ≤ 4611686018427387904 := fun i hi => by have := hrow i hi; omega
  conv => whnf
  refine ⟨_, fun _ => call19 0 0 t level inflow (by omega) (by omega) (by omega) b4, ?_⟩
  have hx : relF t level inflow = (atF t level inflow, 0) := by unfold relF; rw [if_neg (by omega), if_neg (by omega)]
  rw [hx]
  conv => whnf
  refine ⟨_, fun _ => call19 0 0 t (level + up) (inflow + more) (by omega) (by omega) (by omega) b4, ?_⟩
  have hy : relF t (level + up) (inflow + more) = (atF t (level + up) (inflow + more), 0) := by unfold relF; rw [if_neg (by omega), if_neg (by omega)]
  rw [hy]
  have hxy := at_mono hok (a := level) (a' := level + up) (b := inflow) (b' := inflow + more) (by omega) (by omega)
  have hf := at_found hok level inflow
  generalize atF t (level + up) (inflow + more) = y at hxy ⊢
  generalize atF t level inflow = x at hxy hf ⊢
  conv => whnf
  refine ⟨?_, ?_⟩
  · (try conv => whnf)
    (repeat' (first | exact True.intro | exact fun _ h => h | refine inR64_of ?_ ?_ | apply And.intro | refine maxLen_ge ?_)) <;> (first | omega | (dsimp only; omega) | (dsimp only [List.length_cons, List.length_nil]; omega) | (intro hg; rw [hg]; rfl) | (intro hg hh; rw [hg, hh]; rfl) | (intro hg; simp [-List.getD_eq_getElem?_getD, -Int.default_eq_zero] at hg; first | omega | (refine inR64_of ?_ ?_ <;> omega) | (constructor <;> omega)) | (simp [-List.getD_eq_getElem?_getD, -Int.default_eq_zero]; done))
  refine LSem.loop (n := 88) mix (α := Nat) (fun i => i ≤ t.rel.length)
    (fun i => [(12, .int .i64 x), (13, .int .i64 0), (14, .int .i64 y), (15, .int .i64 0), (16, .bool (foundF (t.rel.take i) x)), (54, .sl 0 1 t.rel.length (fl (eIs 0) t.rel)), (55, .int .i64 t.rel.length), (56, .int .i64 i)])
    (fun i => []) (fun i => t.rel.length - i) 0 ?_ ?_ ?_
  · exact Nat.zero_le _
  · refine ⟨rfl, rfl, ?_, ?_⟩
    all_goals repeat' (first | exact True.intro | refine leF_cons rfl ?_ ?_ | refine leS_cons rfl ?_ ?_ | (show PLe _ _ _ _; conv => whnf) | (show SLe _ _ _ _; conv => whnf) | (show PLeL _ _ _ _; conv => whnf) | apply And.intro | rfl | exact Nat.le_refl _ | exact fun _ _ => rfl | exact rowEq0 _ _)
    all_goals skip
  · intro i hi
    have hj : ((i : Int)).toNat = i := by omega
    conv => whnf
    refine ⟨trivial, fun hc2 => ?_, fun hc2 => ?_⟩
    · replace hc2 := of_decide_eq_true hc2
      have hlt : i < t.rel.length := by
        have h : (i : Int) < t.rel.length := hc2
        omega
      have hLl := hrow i hlt
      have hstep : foundF (t.rel.take (i + 1)) x = (foundF (t.rel.take i) x || (t.rel.getD i default).any fun n => n == x) := any_take hlt
      conv => whnf
      rw [hj]
      generalize t.rel.getD i default = L at hLl hstep ⊢
      refine ⟨?_, ?_⟩
      · (try conv => whnf)
        (repeat' (first | exact True.intro | exact fun _ h => h | refine inR64_of ?_ ?_ | apply And.intro | refine maxLen_ge ?_)) <;> (first | omega | (dsimp only; omega) | (dsimp only [List.length_cons, List.length_nil]; omega) | (intro hg; rw [hg]; rfl) | (intro hg hh; rw [hg, hh]; rfl) | (intro hg; simp [-List.getD_eq_getElem?_getD, -Int.default_eq_zero] at hg; first | omega | (refine inR64_of ?_ ?_ <;> omega) | (constructor <;> omega)) | (simp [-List.getD_eq_getElem?_getD, -Int.default_eq_zero]; done))
      refine LSem.loop (n := 88) mix (α := Nat) (fun k => k ≤ L.length)
        (fun k => [(12, .int .i64 x), (13, .int .i64 0), (14, .int .i64 y), (15, .int .i64 0), (16, .bool (foundF (t.rel.take i) x || (L.take k).any fun n => n == x)), (54, .sl 0 1 t.rel.length (fl (eIs 0) t.rel)), (55, .int .i64 t.rel.length), (56, .int .i64 i), (60, .sl 0 1 L.length (fl eInt L)), (61, .int .i64 L.length), (62, .int .i64 k)])
        (fun k => []) (fun k => L.length - k) 0 ?_ ?_ ?_
      · exact Nat.zero_le _
      · refine ⟨rfl, rfl, ?_, ?_⟩
        all_goals repeat' (first | exact True.intro | refine leF_cons rfl ?_ ?_ | refine leS_cons rfl ?_ ?_ | (show PLe _ _ _ _; conv => whnf) | (show SLe _ _ _ _; conv => whnf) | (show PLeL _ _ _ _; conv => whnf) | apply And.intro | rfl | exact Nat.le_refl _ | exact fun _ _ => rfl | exact rowEq0 _ _)
        all_goals first | (simp; done) | skip
      · intro k hk
        have hj2 : ((k : Int)).toNat = k := by omega
        conv => whnf
        refine ⟨trivial, fun hc3 => ?_, fun hc3 => ?_⟩
        · replace hc3 := of_decide_eq_true hc3
          have hlt2 : k < L.length := by
            have h : (k : Int) < L.length := hc3
            omega
          have hst2 : ((L.take (k + 1)).any fun n => n == x) = (((L.take k).any fun n => n == x) || (L.getD k default == x)) := any_take hlt2
          conv => whnf
          refine ⟨?_, k + 1, hlt2, ?_, rfl, rfl, ?_, ?_⟩
          · (try conv => whnf)
            (repeat' (first | exact True.intro | exact fun _ h => h | refine inR64_of ?_ ?_ | apply And.intro | refine maxLen_ge ?_)) <;> (first | omega | (dsimp only; omega) | (dsimp only [List.length_cons, List.length_nil]; omega) | (intro hg; rw [hg]; rfl) | (intro hg hh; rw [hg, hh]; rfl) | (intro hg; simp [-List.getD_eq_getElem?_getD, -Int.default_eq_zero] at hg; first | omega | (refine inR64_of ?_ ?_ <;> omega) | (constructor <;> omega)) | (simp [-List.getD_eq_getElem?_getD, -Int.default_eq_zero]; done))
          · omega
          all_goals repeat' (first | exact True.intro | refine leF_cons rfl ?_ ?_ | refine leS_cons rfl ?_ ?_ | (show PLe _ _ _ _; conv => whnf) | (show SLe _ _ _ _; conv => whnf) | (show PLeL _ _ _ _; conv => whnf) | apply And.intro | rfl | exact Nat.le_refl _ | exact fun _ _ => rfl | exact rowEq0 _ _)
          all_goals first | omega | (rw [hst2, hj2]; cases foundF (t.rel.take i) x <;> cases ((L.take k).any fun n => n == x) <;> rfl) | skip
        · replace hc3 := of_decide_eq_false hc3
          have hk2 : k = L.length := by
            have h : ¬ (k : Int) < L.length := hc3
            omega
          subst hk2
          conv => whnf
          refine ⟨?_, i + 1, hlt, ?_, rfl, rfl, ?_, ?_⟩
          · (try conv => whnf)
            (repeat' (first | exact True.intro | exact fun _ h => h | refine inR64_of ?_ ?_ | apply And.intro | refine maxLen_ge ?_)) <;> (first | omega | (dsimp only; omega) | (dsimp only [List.length_cons, List.length_nil]; omega) | (intro hg; rw [hg]; rfl) | (intro hg hh; rw [hg, hh]; rfl) | (intro hg; simp [-List.getD_eq_getElem?_getD, -Int.default_eq_zero] at hg; first | omega | (refine inR64_of ?_ ?_ <;> omega) | (constructor <;> omega)) | (simp [-List.getD_eq_getElem?_getD, -Int.default_eq_zero]; done))
          · omega
          all_goals repeat' (first | exact True.intro | refine leF_cons rfl ?_ ?_ | refine leS_cons rfl ?_ ?_ | (show PLe _ _ _ _; conv => whnf) | (show SLe _ _ _ _; conv => whnf) | (show PLeL _ _ _ _; conv => whnf) | apply And.intro | rfl | exact Nat.le_refl _ | exact fun _ _ => rfl | exact rowEq0 _ _)
          all_goals first | omega | (rw [hstep, List.take_length]; done) | skip
    · replace hc2 := of_decide_eq_false hc2
      have hk : i = t.rel.length := by
        have h : ¬ (i : Int) < t.rel.length := hc2
        omega
      subst hk
      rw [List.take_length, hf]
      conv => whnf
      refine ⟨?_, [], ?_⟩
      · (try conv => whnf)
        (repeat' (first | exact True.intro | exact fun _ h => h | refine inR64_of ?_ ?_ | apply And.intro | refine maxLen_ge ?_)) <;> (first | omega | (dsimp only; omega) | (dsimp only [List.length_cons, List.length_nil]; omega) | (intro hg; rw [hg]; rfl) | (intro hg hh; rw [hg, hh]; rfl) | (intro hg; simp [-List.getD_eq_getElem?_getD, -Int.default_eq_zero] at hg; first | omega | (refine inR64_of ?_ ?_ <;> omega) | (constructor <;> omega)) | (simp [-List.getD_eq_getElem?_getD, -Int.default_eq_zero]; done))
      conv => whnf
      refine ⟨rfl, ?_, trivial, trivial⟩
      all_goals repeat' (first | exact True.intro | refine leF_cons rfl ?_ ?_ | refine leS_cons rfl ?_ ?_ | (show PLe _ _ _ _; conv => whnf) | (show SLe _ _ _ _; conv => whnf) | (show PLeL _ _ _ _; conv => whnf) | apply And.intro | rfl | exact Nat.le_refl _ | exact fun _ _ => rfl | exact rowEq0 _ _)
      rw [decide_eq_true hxy]; rfl
end Pv
end Go.Proofs.YtcfcmafmdpbjoaaDoor

/- LAW 24, PLAIN: a table is read back from its text. -/
set_option linter.unusedSimpArgs false
set_option linter.unusedVariables false
namespace Go.Proofs.YtcfcmafmdpbjoaaDoor
namespace Pv

theorem splitC_clean {c : UInt8} : ∀ {a : List UInt8}, (∀ x ∈ a, x ≠ c) → splitC c a = [a]
  | [], _ => rfl
  | x :: xs, h => by
    have ih := splitC_clean (c := c) (a := xs) (fun y hy => h y (by simp [hy]))
    simp only [splitC, if_neg (h x (by simp)), ih]
theorem splitC_cut {c : UInt8} {r : List UInt8} : ∀ {a : List UInt8}, (∀ x ∈ a, x ≠ c) → splitC c (a ++ c :: r) = a :: splitC c r
  | [], _ => by simp [splitC]
  | x :: xs, h => by
    have ih := splitC_cut (c := c) (r := r) (a := xs) (fun y hy => h y (by simp [hy]))
    simp only [List.cons_append, splitC, if_neg (h x (by simp)), ih]

/-! ### numerals -/
theorem dig_nat {d : Nat} (h : d < 10) : (UInt8.ofNat (48 + d)).toNat = 48 + d := by
  rw [UInt8.toNat_ofNat']; omega
theorem decDigits_small {u : Nat} (h : u < 10) : Lib.decDigits u = [UInt8.ofNat (48 + u)] := by rw [Lib.decDigits, dif_pos h]
theorem decDigits_big {u : Nat} (h : ¬ u < 10) : Lib.decDigits u = Lib.decDigits (u / 10) ++ [UInt8.ofNat (48 + u % 10)] := by rw [Lib.decDigits, dif_neg h]
theorem decDigits_dig (u : Nat) : ∀ x ∈ Lib.decDigits u, 48 ≤ x.toNat ∧ x.toNat ≤ 57 := by
  induction u using Nat.strongRecOn with
  | ind u ih =>
    intro x hx
    by_cases h : u < 10
    · rw [decDigits_small h, List.mem_singleton] at hx
      rw [hx, dig_nat h]; omega
    · rw [decDigits_big h, List.mem_append, List.mem_singleton] at hx
      rcases hx with hx | hx
      · exact ih (u / 10) (by omega) x hx
      · rw [hx, dig_nat (by omega)]; omega
theorem digs_snoc : ∀ {s : List UInt8} {a : Int} {d : Nat}, d < 10 → digs a (s ++ [UInt8.ofNat (48 + d)]) = (digs a s).map fun b => 10 * b + (d : Int)
  | [], a, d, h => by
    simp only [List.nil_append, digs, dig_nat h, Option.map_some]
    rw [if_neg (by omega)]
    congr 1
    omega
  | c :: cs, a, d, h => by
    simp only [List.cons_append, digs]
    split
    · rfl
    · exact digs_snoc h
theorem digs_dec (u : Nat) : digs 0 (Lib.decDigits u) = some (u : Int) := by
  induction u using Nat.strongRecOn with
  | ind u ih =>
    by_cases h : u < 10
    · rw [decDigits_small h]
      have := digs_snoc (s := []) (a := 0) h
      rw [List.nil_append] at this
      rw [this]
      simp [digs]
    · rw [decDigits_big h, digs_snoc (by omega), ih (u / 10) (by omega)]
      simp only [Option.map_some]
      congr 1
      omega
theorem decDigits_len {k : Nat} : ∀ {u : Nat}, 1 ≤ k → u < 10 ^ k → (Lib.decDigits u).length ≤ k := by
  induction k with
  | zero => intro u h; omega
  | succ k ih =>
    intro u _ hu
    by_cases h : u < 10
    · rw [decDigits_small h]; simp
    · rw [decDigits_big h, List.length_append]
      have hk : 1 ≤ k := by
        rcases k with _ | k
        · simp at hu; omega
        · omega
      have h2 : u / 10 < 10 ^ k := by
        rw [Nat.div_lt_iff_lt_mul (by decide), ← Nat.pow_succ]; exact hu
      have := ih hk h2
      simp only [List.length_cons, List.length_nil]; omega
theorem decDigits_ne (u : Nat) : 1 ≤ (Lib.decDigits u).length := by
  by_cases h : u < 10
  · rw [decDigits_small h]; simp
  · rw [decDigits_big h]; simp
theorem decDigits_head (u : Nat) (h1 : 1 ≤ u) : ((Lib.decDigits u).getD 0 0).toNat ≠ 48 := by
  induction u using Nat.strongRecOn with
  | ind u ih =>
    by_cases h : u < 10
    · rw [decDigits_small h]
      show (UInt8.ofNat (48 + u)).toNat ≠ 48
      rw [dig_nat h]; omega
    · have h2 := ih (u / 10) (by omega) (by omega)
      have h3 := decDigits_ne (u / 10)
      rw [decDigits_big h, List.getD_eq_getElem?_getD, List.getElem?_append_left (by omega), ← List.getD_eq_getElem?_getD]
      exact h2
theorem number_itoa {n : Int} (h0 : 0 ≤ n) (h1 : n ≤ 1073741824) : numberF (Lib.itoa n) = some n := by
  have he : Lib.itoa n = Lib.decDigits n.toNat := by unfold Lib.itoa; rw [if_neg (by omega)]
  have hl := decDigits_len (k := 13) (u := n.toNat) (by decide) (by
    have : n.toNat ≤ 1073741824 := by omega
    exact Nat.lt_of_le_of_lt this (by decide))
  have hn := decDigits_ne n.toNat
  rw [he]
  unfold numberF
  rw [if_neg, digs_dec]
  · congr 1; omega
  · rintro (h | h | ⟨h2, h3⟩)
    · omega
    · omega
    · by_cases hu : n.toNat < 10
      · rw [decDigits_small hu] at h2; simp at h2
      · exact decDigits_head n.toNat (by omega) h3
theorem itoa_clean {n : Int} (h0 : 0 ≤ n) : ∀ x ∈ Lib.itoa n, x ≠ 32 ∧ x ≠ 10 := fun x hx => by
  have he : Lib.itoa n = Lib.decDigits n.toNat := by unfold Lib.itoa; rw [if_neg (by omega)]
  rw [he] at hx
  have := decDigits_dig _ x hx
  refine ⟨fun e => ?_, fun e => ?_⟩ <;> (subst e; revert this; decide)

/-! ### lines -/
theorem split_nums : ∀ {l : List Int} {a : List UInt8}, (∀ x ∈ a, x ≠ 32) → (∀ n ∈ l, 0 ≤ n) → splitC 32 (a ++ numsT l) = a :: l.map Lib.itoa
  | [], a, ha, _ => by
    have : a ++ numsT [] = a := by simp [numsT]
    rw [this, splitC_clean ha]; rfl
  | n :: l, a, ha, hl => by
    have e : a ++ numsT (n :: l) = a ++ 32 :: (Lib.itoa n ++ numsT l) := by simp [numsT]
    rw [e, splitC_cut ha, split_nums (fun x hx => (itoa_clean (hl n (by simp)) x hx).1) (fun m hm => hl m (by simp [hm]))]
    rfl
theorem map_itoa : ∀ {l : List Int}, (∀ n ∈ l, 0 ≤ n ∧ n ≤ 1073741824) → mapNum (l.map Lib.itoa) = some l
  | [], _ => rfl
  | n :: l, h => by
    have h1 := h n (by simp)
    have ih := map_itoa (l := l) (fun m hm => h m (by simp [hm]))
    simp only [List.map_cons, mapNum, number_itoa h1.1 h1.2, ih, Option.map_some]
def Rng (l : List Int) : Prop := ∀ n ∈ l, 0 ≤ n ∧ n ≤ 1073741824
theorem numbers_line {w : List UInt8} {l : List Int} (hw : ∀ x ∈ w, x ≠ 32) (hl : Rng l) : numbersF (w ++ numsT l) w = some l := by
  unfold numbersF
  rw [split_nums hw (fun n hn => (hl n hn).1)]
  rw [if_neg (fun h => h rfl)]
  exact map_itoa hl
theorem line_clean {w : List UInt8} {l : List Int} (hw : ∀ x ∈ w, x ≠ 10) (hl : Rng l) : ∀ x ∈ w ++ numsT l, x ≠ 10 := fun x hx => by
  rcases List.mem_append.1 hx with h | h
  · exact hw x h
  · unfold numsT at h
    obtain ⟨n, hn, h2⟩ := List.mem_flatMap.1 h
    rcases List.mem_cons.1 h2 with rfl | h3
    · decide
    · exact (itoa_clean (hl n hn).1 x h3).2
theorem wInflow_clean : ∀ x ∈ wInflow, x ≠ 32 ∧ x ≠ 10 := by decide
theorem wLevel_clean : ∀ x ∈ wLevel, x ≠ 32 ∧ x ≠ 10 := by decide
def levR (t : FT) : Nat → Nat → List UInt8
  | _, 0 => []
  | i, m + 1 => lineF wLevel (t.lv.getD i default :: t.rel.getD i default) ++ levR t (i + 1) m
theorem levT_R (t : FT) : ∀ (m k : Nat), levT t k ++ levR t k m = levT t (k + m)
  | 0, k => by simp [levR]
  | m + 1, k => by
    have := levT_R t m (k + 1)
    rw [show k + (m + 1) = k + 1 + m by omega, ← this]
    simp only [levT, levR, List.append_assoc]
theorem TabOK.rngI {t : FT} (h : TabOK t) : Rng t.inf := fun n hn => by
  obtain ⟨i, hi, rfl⟩ := List.getElem_of_mem hn
  have := h.infr hi
  rw [show t.inf.getD i default = t.inf[i] by simp [List.getD, hi]] at this
  exact this
theorem TabOK.rngR {t : FT} (h : TabOK t) {i : Nat} (hi : i < t.lv.length) : Rng (t.lv.getD i default :: t.rel.getD i default) := fun n hn => by
  have hl := h.l3
  rcases List.mem_cons.1 hn with rfl | hn
  · have := h.lvr hi; omega
  · obtain ⟨k, hk, rfl⟩ := List.getElem_of_mem hn
    have := h.cell (i := i) (by omega) hk
    generalize t.rel.getD i default = L at hk this
    rw [List.getD_eq_getElem?_getD, List.getElem?_eq_getElem hk] at this
    exact this
theorem take_push {α : Type} [Inhabited α] {l : List α} {i : Nat} (h : i < l.length) : l.take i ++ [l.getD i default] = l.take (i + 1) := by
  rw [List.take_succ_eq_append_getElem h]
  simp [List.getD, h]
theorem parse_lev {t : FT} (h : TabOK t) : ∀ (m i n : Nat), 2 ≤ n → i + m = t.lv.length → pLines n (splitC 10 (levR t i m)) ⟨t.lv.take i, t.inf, t.rel.take i⟩ = (t, 0, checkF t)
  | 0, i, n, hn, hi => by
    have e1 : t.lv.take i = t.lv := List.take_of_length_le (by omega)
    have e2 : t.rel.take i = t.rel := List.take_of_length_le (by have := h.l3; omega)
    rw [e1, e2]
    show (if n = 1 ∨ ([] : List UInt8) ≠ [] then _ else _) = _
    rw [if_neg (by rintro (h | h); · omega
                   · exact h rfl)]
  | m + 1, i, n, hn, hi => by
    have hr := h.rngR (i := i) (by omega)
    have hl3 := h.l3
    have e : levR t i (m + 1) = (wLevel ++ numsT (t.lv.getD i default :: t.rel.getD i default)) ++ 10 :: levR t (i + 1) m := by simp [levR, lineF]
    rw [e, splitC_cut (line_clean (fun x hx => (wLevel_clean x hx).2) hr), pLines_cons (splitC_ne 10 _), if_neg (by omega), numbers_line (fun x hx => (wLevel_clean x hx).1) hr]
    dsimp only
    rw [take_push (by omega), take_push (by omega)]
    exact parse_lev h m (i + 1) (n + 1) (by omega) (by omega)
theorem parse_body {t : FT} (h : checkF t = 0) : parseF (bodyT t) = (t, 0, 0) := by
  have hok := check_ok h
  have e0 : levT t t.lv.length = levR t 0 t.lv.length := by
    have := levT_R t t.lv.length 0
    simp only [levT, List.nil_append, Nat.zero_add] at this
    exact this.symm
  have e : bodyT t = (wInflow ++ numsT t.inf) ++ 10 :: levR t 0 t.lv.length := by
    unfold bodyT
    rw [e0]
    simp [lineF]
  unfold parseF
  rw [e, splitC_cut (line_clean (fun x hx => (wInflow_clean x hx).2) hok.rngI), pLines_cons (splitC_ne 10 _), if_pos rfl, numbers_line (fun x hx => (wInflow_clean x hx).1) hok.rngI]
  dsimp only
  have := parse_lev hok t.lv.length 0 2 (Nat.le_refl _) (by omega)
  rw [List.take_zero, List.take_zero, h] at this
  exact this
theorem same_iff {a b : FT} : sameF a b = true ↔ a = b := by
  obtain ⟨x, y, z⟩ := a
  obtain ⟨x', y', z'⟩ := b
  unfold sameF
  simp only [Bool.and_eq_true, beq_iff_eq, FT.mk.injEq]
theorem body_same {a b : FT} (ha : checkF a = 0) (hb : checkF b = 0) : (bodyT a == bodyT b) = sameF a b := by
  cases hs : sameF a b with
  | true => rw [same_iff.1 hs]; exact beq_self_eq_true _
  | false =>
    refine beq_eq_false_iff_ne.2 fun e => ?_
    have h1 := parse_body ha
    rw [e, parse_body hb] at h1
    have : b = a := (Prod.mk.inj h1).1
    rw [same_iff.2 this.symm] at hs
    cases hs
end Pv
end Go.Proofs.YtcfcmafmdpbjoaaDoor

set_option linter.unusedSimpArgs false
set_option linter.unusedVariables false
namespace Go.Proofs.YtcfcmafmdpbjoaaDoor
namespace Pv
def c4 : C := (.seq (.reg [⟨(some 4), 64, none, .mv (.c (.bool false))⟩])
  (.seq (.seq (.reg [⟨(some 14), 224, none, .call (.c (.fn (.func 8) [] [])) []⟩,
    ⟨(some 15), 240, none, .un false .not (.t 14)⟩])
  (.cond (.t 15) (.seq (.reg [⟨(some 4), 64, none, .mv (.c (.bool false))⟩])
  .ret) .skip))
  (.seq (.seq (.reg [⟨(some 16), 256, none, .mv (.t 0)⟩,
    ⟨(some 17), 272, none, .call (.c (.fn (.func 9) [] [])) [(.t 16)]⟩,
    ⟨(some 18), 288, none, .un false .not (.t 17)⟩,
    ⟨(some 19), 304, none, .mv (.t 18)⟩,
    ⟨(some 20), 320, (some (19, false)), .mv (.t 1)⟩,
    ⟨(some 21), 336, (some (19, false)), .call (.c (.fn (.func 9) [] [])) [(.t 20)]⟩,
    ⟨(some 22), 352, (some (19, false)), .un false .not (.t 21)⟩,
    ⟨(some 23), 368, none, .pick (.t 19) (.c (.bool true)) (.t 22)⟩])
  (.cond (.t 23) (.seq (.reg [⟨(some 4), 64, none, .mv (.c (.bool true))⟩])
  .ret) .skip))
  (.seq (.reg [⟨(some 24), 384, none, .mv (.t 0)⟩,
    ⟨(some 25), 400, none, .call (.c (.fn (.func 12) [] [])) [(.t 24)]⟩,
    ⟨(some 26), 416, none, .call (.c (.fn (.func 11) [] [])) [(.t 25)]⟩,
    ⟨(some 27), 432, none, .mv (.t 1)⟩,
    ⟨(some 28), 448, none, .call (.c (.fn (.func 12) [] [])) [(.t 27)]⟩,
    ⟨(some 29), 464, none, .call (.c (.fn (.func 11) [] [])) [(.t 28)]⟩,
    ⟨(some 5), 80, none, .al [(.nil 1), (.nil 1), (.nil 1)]⟩,
    ⟨(some 6), 96, none, .al [(.nil 1), (.nil 1), (.nil 1)]⟩,
    ⟨none, 0, none, .st 3 (.t 5) (.t 26)⟩,
    ⟨none, 0, none, .st 3 (.t 6) (.t 29)⟩])
  (.seq (.reg [⟨(some 31), 496, none, .ld 3 true (.t 5)⟩,
    ⟨(some 32), 512, none, .call (.c (.fn (.func 17) [] [])) [(.t 31)]⟩,
    ⟨(some 30), 480, none, .mv (.t 32)⟩,
    ⟨(some 33), 528, none, .ex (.t 30) 0⟩,
    ⟨(some 34), 544, none, .ex (.t 30) 1⟩,
    ⟨(some 7), 112, none, .mv (.t 33)⟩,
    ⟨(some 8), 128, none, .mv (.t 34)⟩])
  (.seq (.reg [⟨(some 36), 576, none, .ld 3 true (.t 6)⟩,
    ⟨(some 37), 592, none, .call (.c (.fn (.func 17) [] [])) [(.t 36)]⟩,
    ⟨(some 35), 560, none, .mv (.t 37)⟩,
    ⟨(some 38), 608, none, .ex (.t 35) 0⟩,
    ⟨(some 39), 624, none, .ex (.t 35) 1⟩,
    ⟨(some 9), 144, none, .mv (.t 38)⟩,
    ⟨(some 10), 160, none, .mv (.t 39)⟩])
  (.seq (.reg [⟨(some 41), 656, none, .mv (.t 7)⟩,
    ⟨(some 42), 672, none, .call (.c (.fn (.func 14) [] [])) [(.t 41)]⟩,
    ⟨(some 40), 640, none, .mv (.t 42)⟩,
    ⟨(some 43), 688, none, .ex (.t 40) 0⟩,
    ⟨(some 44), 704, none, .ex (.t 40) 1⟩,
    ⟨(some 45), 720, none, .ex (.t 40) 2⟩,
    ⟨(some 11), 176, none, .al [(.nil 1), (.nil 1), (.nil 1)]⟩,
    ⟨none, 0, none, .st 3 (.t 11) (.t 43)⟩,
    ⟨(some 12), 192, none, .mv (.t 44)⟩,
    ⟨(some 13), 208, none, .mv (.t 45)⟩])
  (.seq (.reg [⟨(some 46), 736, none, .mv (.t 8)⟩,
    ⟨(some 47), 752, none, .bi false .eql (.t 46) (.c (.int .i64 0))⟩,
    ⟨(some 48), 768, none, .mv (.t 47)⟩,
    ⟨(some 49), 784, (some (48, true)), .mv (.t 10)⟩,
    ⟨(some 50), 800, (some (48, true)), .bi false .eql (.t 49) (.c (.int .i64 0))⟩,
    ⟨(some 51), 816, none, .pick (.t 48) (.t 50) (.c (.bool false))⟩,
    ⟨(some 52), 832, none, .mv (.t 51)⟩,
    ⟨(some 53), 848, (some (52, true)), .mv (.t 13)⟩,
    ⟨(some 54), 864, (some (52, true)), .bi false .eql (.t 53) (.c (.int .i64 0))⟩,
    ⟨(some 55), 880, none, .pick (.t 52) (.t 54) (.c (.bool false))⟩,
    ⟨(some 56), 896, none, .mv (.t 55)⟩,
    ⟨(some 57), 912, (some (56, true)), .mv (.t 12)⟩,
    ⟨(some 58), 928, (some (56, true)), .bi false .eql (.t 57) (.c (.int .i64 0))⟩,
    ⟨(some 59), 944, none, .pick (.t 56) (.t 58) (.c (.bool false))⟩,
    ⟨(some 60), 960, none, .mv (.t 59)⟩,
    ⟨(some 61), 976, (some (60, true)), .ld 3 true (.t 11)⟩,
    ⟨(some 62), 992, (some (60, true)), .ld 3 true (.t 5)⟩,
    ⟨(some 63), 1008, (some (60, true)), .call (.c (.fn (.func 18) [] [])) [(.t 61), (.t 62)]⟩,
    ⟨(some 64), 1024, none, .pick (.t 60) (.t 63) (.c (.bool false))⟩,
    ⟨(some 65), 1040, none, .mv (.t 64)⟩,
    ⟨(some 66), 1056, (some (65, true)), .mv (.t 7)⟩,
    ⟨(some 67), 1072, (some (65, true)), .mv (.t 9)⟩,
    ⟨(some 68), 1088, (some (65, true)), .bi false .eql (.t 66) (.t 67)⟩,
    ⟨(some 69), 1104, (some (65, true)), .ld 3 true (.t 5)⟩,
    ⟨(some 70), 1120, (some (65, true)), .ld 3 true (.t 6)⟩,
    ⟨(some 71), 1136, (some (65, true)), .call (.c (.fn (.func 18) [] [])) [(.t 69), (.t 70)]⟩,
    ⟨(some 72), 1152, (some (65, true)), .bib false (.t 68) (.t 71)⟩,
    ⟨(some 73), 1168, none, .pick (.t 65) (.t 72) (.c (.bool false))⟩,
    ⟨(some 4), 64, none, .mv (.t 73)⟩])
  .ret))))))))
theorem fits4 : fits Tryd.prog false Tryd.f4 2 74 [(4, none)] = some c4.er := by kernel_rfl

theorem body_len {t : FT} (h : TabOK t) : (bodyT t).length ≤ 30000 := by
  have h1 := lineF_len (w := wInflow) h.iinf
  have h2 := levT_len h t.lv.length (Nat.le_refl _)
  have h3 := h.l1
  have h4 := h.l2
  have hw : wInflow.length = 6 := rfl
  unfold bodyT
  rw [List.length_append]
  omega
theorem format_ok {t : FT} (h : checkF t = 0) : formatF t = (bodyT t, 0) := by unfold formatF; rw [if_neg (by omega)]

set_option maxRecDepth 100000 in
set_option maxHeartbeats 16000000 in
theorem call4 (l m : List Int) : PureCall Tryd.prog 4 [.sl 1 1 l.length (fl eInt l), .sl 1 1 m.length (fl eInt m)] [] ⟨.bool true, [], []⟩ := by
  refine pure_call mix Tryd.func4 fits4 rfl ?_
  conv => whnf
  refine ⟨_, fun _ => call8, ?_⟩
  conv => whnf
  refine ⟨?_, fun h => absurd h Bool.false_ne_true, fun _ => ?_⟩
  · (try conv => whnf)
    (repeat' (first | exact True.intro | exact fun _ h => h | refine inR64_of ?_ ?_ | apply And.intro | refine maxLen_ge ?_)) <;> (first | omega | (dsimp only; omega) | (dsimp only [List.length_cons, List.length_nil]; omega) | (intro hg; rw [hg]; rfl) | (intro hg hh; rw [hg, hh]; rfl) | (intro hg; simp [-List.getD_eq_getElem?_getD, -Int.default_eq_zero] at hg; first | omega | (refine inR64_of ?_ ?_ <;> omega) | (constructor <;> omega)) | (simp [-List.getD_eq_getElem?_getD, -Int.default_eq_zero]; done))
  conv => whnf
  refine ⟨_, fun _ => call9 1 l, ?_⟩
  conv => whnf
  refine ⟨_, fun _ => call9 1 m, ?_⟩
  conv => whnf
  refine ⟨?_, fun hc => ?_, fun hc => ?_⟩
  · (try conv => whnf)
    (repeat' (first | exact True.intro | exact fun _ h => h | refine inR64_of ?_ ?_ | apply And.intro | refine maxLen_ge ?_)) <;> (first | omega | (dsimp only; omega) | (dsimp only [List.length_cons, List.length_nil]; omega) | (intro hg; rw [hg]; rfl) | (intro hg hh; rw [hg, hh]; rfl) | (intro hg; simp [-List.getD_eq_getElem?_getD, -Int.default_eq_zero] at hg; first | omega | (refine inR64_of ?_ ?_ <;> omega) | (constructor <;> omega)) | (simp [-List.getD_eq_getElem?_getD, -Int.default_eq_zero]; done))
  · conv => whnf
    refine ⟨?_, [], ?_⟩
    · (try conv => whnf)
      (repeat' (first | exact True.intro | exact fun _ h => h | refine inR64_of ?_ ?_ | apply And.intro | refine maxLen_ge ?_)) <;> (first | omega | (dsimp only; omega) | (dsimp only [List.length_cons, List.length_nil]; omega) | (intro hg; rw [hg]; rfl) | (intro hg hh; rw [hg, hh]; rfl) | (intro hg; simp [-List.getD_eq_getElem?_getD, -Int.default_eq_zero] at hg; first | omega | (refine inR64_of ?_ ?_ <;> omega) | (constructor <;> omega)) | (simp [-List.getD_eq_getElem?_getD, -Int.default_eq_zero]; done))
    conv => whnf
    refine ⟨rfl, ?_, trivial, trivial⟩
    all_goals repeat' (first | exact True.intro | refine leF_cons rfl ?_ ?_ | refine leS_cons rfl ?_ ?_ | (show PLe _ _ _ _; conv => whnf) | (show SLe _ _ _ _; conv => whnf) | (show PLeL _ _ _ _; conv => whnf) | apply And.intro | rfl | exact Nat.le_refl _ | exact fun _ _ => rfl | exact rowEq0 _ _)
  conv => whnf
  refine ⟨_, fun _ => call_new 1 l, ?_⟩
  conv => whnf
  refine ⟨_, fun _ => call11 ⟨l, 0⟩ (by dsimp only; omega), ?_⟩
  have ha0 := tab_ok ⟨l, 0⟩
  generalize (tabF ⟨l, 0⟩).2 = D
  generalize (tabF ⟨l, 0⟩).1 = a at ha0 ⊢
  conv => whnf
  refine ⟨_, fun _ => call_new 1 m, ?_⟩
  conv => whnf
  refine ⟨_, fun _ => call11 ⟨m, 0⟩ (by dsimp only; omega), ?_⟩
  have hb0 := tab_ok ⟨m, 0⟩
  generalize (tabF ⟨m, 0⟩).2 = D2
  generalize (tabF ⟨m, 0⟩).1 = b at hb0 ⊢
  have ha := check_ok ha0
  have hb := check_ok hb0
  have a1 := ha.l1
  have a2 := ha.l2
  have a3 := ha.l3
  have a4 : ∀ i, i < a.rel.length → (a.rel.getD i default).length ≤ 4611686018427387904 := fun i hi => by have := ha.row hi; omega
  have b1 := hb.l1
  have b2 := hb.l2
  have b3 := hb.l3
  have b4 : ∀ i, i < b.rel.length → (b.rel.getD i default).length ≤ 4611686018427387904 := fun i hi => by have := hb.row hi; omega
  conv => whnf
  refine ⟨_, fun _ => PureCall.arg_le (call17 0 a (by omega) (by omega) (by omega) a4) rfl (by
    all_goals repeat' (first | exact True.intro | refine leF_cons rfl ?_ ?_ | refine leS_cons rfl ?_ ?_ | (show PLe _ _ _ _; conv => whnf) | (show SLe _ _ _ _; conv => whnf) | (show PLeL _ _ _ _; conv => whnf) | apply And.intro | rfl | exact Nat.le_refl _ | exact fun _ _ => rfl | exact rowEq0 _ _)
    all_goals first | omega | exact (by decide) | skip), ?_⟩
  rw [format_ok ha0]
  conv => whnf
  refine ⟨_, fun _ => PureCall.arg_le (call17 0 b (by omega) (by omega) (by omega) b4) rfl (by
    all_goals repeat' (first | exact True.intro | refine leF_cons rfl ?_ ?_ | refine leS_cons rfl ?_ ?_ | (show PLe _ _ _ _; conv => whnf) | (show SLe _ _ _ _; conv => whnf) | (show PLeL _ _ _ _; conv => whnf) | apply And.intro | rfl | exact Nat.le_refl _ | exact fun _ _ => rfl | exact rowEq0 _ _)
    all_goals first | omega | exact (by decide) | skip), ?_⟩
  rw [format_ok hb0]
  have hbs := body_same ha0 hb0
  have hpa := parse_body ha0
  have hla := body_len ha
  generalize bodyT b = sb at hbs ⊢
  generalize bodyT a = sa at hbs hpa hla ⊢
  conv => whnf
  refine ⟨_, fun _ => call14 sa (by omega), ?_⟩
  rw [hpa]
  conv => whnf
  refine ⟨_, fun _ => call18 0 0 0 0 a a (by omega) (by omega) (by omega) a4, ?_⟩
  rw [same_iff.2 rfl]
  conv => whnf
  refine ⟨_, fun _ => call18 0 0 0 0 a b (by omega) (by omega) (by omega) a4, ?_⟩
  rw [← hbs]
  generalize (sa == sb) = q
  conv => whnf
  refine ⟨?_, [], ?_⟩
  · (try conv => whnf)
    (repeat' (first | exact True.intro | exact fun _ h => h | refine inR64_of ?_ ?_ | apply And.intro | refine maxLen_ge ?_)) <;> (first | omega | (dsimp only; omega) | (dsimp only [List.length_cons, List.length_nil]; omega) | (intro hg; rw [hg]; rfl) | (intro hg hh; rw [hg, hh]; rfl) | (intro hg; simp [-List.getD_eq_getElem?_getD, -Int.default_eq_zero] at hg; first | omega | (refine inR64_of ?_ ?_ <;> omega) | (constructor <;> omega)) | (simp [-List.getD_eq_getElem?_getD, -Int.default_eq_zero]; done))
  conv => whnf
  refine ⟨rfl, ?_, trivial, trivial⟩
  all_goals repeat' (first | exact True.intro | refine leF_cons rfl ?_ ?_ | refine leS_cons rfl ?_ ?_ | (show PLe _ _ _ _; conv => whnf) | (show SLe _ _ _ _; conv => whnf) | (show PLeL _ _ _ _; conv => whnf) | apply And.intro | rfl | exact Nat.le_refl _ | exact fun _ _ => rfl | exact rowEq0 _ _)
  cases q <;> rfl
end Pv
end Go.Proofs.YtcfcmafmdpbjoaaDoor
