/- LAW 02, THE WALKS: curves that may be wrong. -/
import Derived.Test.YtedoglkonfckkaaC17
set_option linter.unusedSimpArgs false
set_option linter.unusedVariables false
namespace Go.Proofs.Ytedoglkonfckkaa
namespace Pv
def c16 : C := (.seq (.reg [⟨(some 2), 32, none, .mv (.c (.nil 2))⟩])
  (.seq (.reg [⟨(some 4), 64, none, .mv (.t 0)⟩,
    ⟨(some 5), 80, none, .mv (.t 0)⟩,
    ⟨(some 6), 96, none, .call (.c (.fn (.func 10) [] [])) [(.t 5), (.c (.int .i64 20))]⟩,
    ⟨(some 7), 112, none, .mv (.t 0)⟩,
    ⟨(some 8), 128, none, .call (.c (.fn (.func 10) [] [])) [(.t 7), (.c (.int .i64 20))]⟩,
    ⟨(some 9), 144, none, .mv (.t 0)⟩,
    ⟨(some 10), 160, none, .call (.c (.fn (.func 10) [] [])) [(.t 9), (.c (.int .i64 2))]⟩,
    ⟨(some 11), 176, none, .bi false .eql (.t 10) (.c (.int .i64 0))⟩,
    ⟨(some 12), 192, none, .call (.c (.fn (.func 9) [] [])) [(.t 4), (.t 6), (.t 8), (.c (.int .i64 30)), (.c (.int .i64 40)), (.t 11)]⟩,
    ⟨(some 3), 48, none, .mv (.t 12)⟩])
  (.seq (.seq (.reg [⟨(some 13), 208, none, .mv (.t 0)⟩,
    ⟨(some 14), 224, none, .call (.c (.fn (.func 10) [] [])) [(.t 13), (.c (.int .i64 10))]⟩])
  (.block 0 (.seq (.reg [⟨(some 16), 256, none, .bi false .eql (.t 14) (.c (.int .i64 7))⟩,
    ⟨(some 15), 240, none, .mv (.t 16)⟩])
  (.cond (.t 15) (.reg [⟨(some 17), 272, none, .mv (.t 3)⟩,
    ⟨(some 18), 288, none, .mv (.t 0)⟩,
    ⟨(some 19), 304, none, .mv (.t 3)⟩,
    ⟨(some 20), 320, none, .len (.t 19)⟩,
    ⟨(some 21), 336, none, .call (.c (.fn (.func 10) [] [])) [(.t 18), (.t 20)]⟩,
    ⟨(some 22), 352, none, .bs 3 1 [(.c (.int .i64 (-1))), (.c (.int .i64 1073741824)), (.c (.int .i64 1073741825)), (.c (.int .i64 5))]⟩,
    ⟨(some 23), 368, none, .mv (.t 0)⟩,
    ⟨(some 24), 384, none, .call (.c (.fn (.func 10) [] [])) [(.t 23), (.c (.int .i64 4))]⟩,
    ⟨(some 25), 400, none, .ia 1 (.t 22) (.t 24)⟩,
    ⟨(some 26), 416, none, .ld 1 false (.t 25)⟩,
    ⟨(some 27), 432, none, .ia 2 (.t 17) (.t 21)⟩,
    ⟨(some 28), 448, none, .fa 0 (.t 27)⟩,
    ⟨none, 0, none, .st 1 (.t 28) (.t 26)⟩]) (.seq (.reg [⟨(some 30), 480, none, .bi false .eql (.t 14) (.c (.int .i64 8))⟩,
    ⟨(some 29), 464, none, .mv (.t 30)⟩])
  (.cond (.t 29) (.reg [⟨(some 31), 496, none, .mv (.t 3)⟩,
    ⟨(some 32), 512, none, .mv (.t 0)⟩,
    ⟨(some 33), 528, none, .mv (.t 3)⟩,
    ⟨(some 34), 544, none, .len (.t 33)⟩,
    ⟨(some 35), 560, none, .call (.c (.fn (.func 10) [] [])) [(.t 32), (.t 34)]⟩,
    ⟨(some 36), 576, none, .bs 3 1 [(.c (.int .i64 (-1))), (.c (.int .i64 274877906944)), (.c (.int .i64 274877906945)), (.c (.int .i64 5))]⟩,
    ⟨(some 37), 592, none, .mv (.t 0)⟩,
    ⟨(some 38), 608, none, .call (.c (.fn (.func 10) [] [])) [(.t 37), (.c (.int .i64 4))]⟩,
    ⟨(some 39), 624, none, .ia 1 (.t 36) (.t 38)⟩,
    ⟨(some 40), 640, none, .ld 1 false (.t 39)⟩,
    ⟨(some 41), 656, none, .ia 2 (.t 31) (.t 35)⟩,
    ⟨(some 42), 672, none, .fa 1 (.t 41)⟩,
    ⟨none, 0, none, .st 1 (.t 42) (.t 40)⟩]) (.seq (.reg [⟨(some 44), 704, none, .bi false .eql (.t 14) (.c (.int .i64 9))⟩,
    ⟨(some 43), 688, none, .mv (.t 44)⟩])
  (.cond (.t 43) (.reg [⟨(some 45), 720, none, .mv (.t 3)⟩,
    ⟨(some 46), 736, none, .mv (.t 3)⟩,
    ⟨(some 47), 752, none, .mv (.t 3)⟩,
    ⟨(some 48), 768, none, .len (.t 47)⟩,
    ⟨(some 49), 784, none, .bi false .sub (.t 48) (.c (.int .i64 1))⟩,
    ⟨(some 50), 800, none, .ia 2 (.t 46) (.t 49)⟩,
    ⟨(some 51), 816, none, .ld 2 true (.t 50)⟩,
    ⟨(some 52), 832, none, .bs 35 2 [(.t 51)]⟩,
    ⟨(some 53), 848, none, .app 35 2 16 (.t 45) (.t 52)⟩,
    ⟨(some 3), 48, none, .mv (.t 53)⟩]) .skip))))))))
  (.seq (.reg [⟨(some 54), 864, none, .mv (.t 3)⟩,
    ⟨(some 2), 32, none, .mv (.t 54)⟩])
  .ret))))
theorem fits16 : fits Try.prog false Try.f16 1 55 [(2, none)] = some c16.er := by kernel_rfl

def pickL (l : List Int) (i : Int) : Int := l.getD i.toNat default
/-- What is made of a curve that has been made: its list, the deck. -/
def wrongS (c : List Pt) (d : Dk) : List Pt × Dk :=
  if nxt d 10 = 7 then (c.set (nxt (nxtD d 10) c.length).toNat ⟨pickL [-1, 1073741824, 1073741825, 5] (nxt (nxtD (nxtD d 10) c.length) 4), (c.getD (nxt (nxtD d 10) c.length).toNat default).y⟩, nxtD (nxtD (nxtD d 10) c.length) 4)
  else if nxt d 10 = 8 then (c.set (nxt (nxtD d 10) c.length).toNat ⟨(c.getD (nxt (nxtD d 10) c.length).toNat default).x, pickL [-1, 274877906944, 274877906945, 5] (nxt (nxtD (nxtD d 10) c.length) 4)⟩, nxtD (nxtD (nxtD d 10) c.length) 4)
  else if nxt d 10 = 9 then (c ++ [c.getD (c.length - 1) default], nxtD d 10)
  else (c, nxtD d 10)
def madeC0 (d : Dk) : Cst := curveS (nxtD (nxtD (nxtD d 20) 20) 2) (nxt d 20) (nxt (nxtD d 20) 20) 30 40 (if nxt (nxtD (nxtD d 20) 20) 2 = 0 then 1 else 0)
def madeS (d : Dk) : List Pt × Dk := wrongS (madeC0 d).L (madeC0 d).d

theorem set_row {c : List Pt} {j : Nat} {p : Pt} (hj : j < c.length) (k : Nat) (hk : k < c.length) : fl ePt (c.set j p) k = if k = j then ePt p else fl ePt c k := by
  show ePt _ = _
  by_cases e : k = j
  · rw [if_pos e]; subst e
    rw [List.getD_eq_getElem?_getD, List.getElem?_set_self hk]; rfl
  · rw [if_neg e]
    show _ = ePt _
    rw [List.getD_eq_getElem?_getD, List.getElem?_set_ne (fun h => e h.symm), List.getD_eq_getElem?_getD]

set_option maxRecDepth 100000 in
set_option maxHeartbeats 4000000 in
theorem call16 (d : Dk) (hd : d.at_ ≤ 1000) : PureCall Try.prog 16 [.pt 0 0 0] [.box (eDk 1 d)] ⟨.sl 0 2 (madeS d).1.length (fl ePt (madeS d).1), [.box (eDk 1 (madeS d).2)], []⟩ := by
  refine pure_call mix Try.func16 fits16 rfl ?_
  conv => whnf
  have r1 := nxt_lt d (n := 20) (by omega)
  have a1 := nxtD_at d 20
  refine ⟨_, fun _ => call_next 1 d 20 (by omega) (by omega), ?_⟩
  conv => whnf
  have r2 := nxt_lt (nxtD d 20) (n := 20) (by omega)
  have a2 := nxtD_at (nxtD d 20) 20
  refine ⟨_, fun _ => call_next 1 (nxtD d 20) 20 (by omega) (by omega), ?_⟩
  conv => whnf
  have r3 := nxt_lt (nxtD (nxtD d 20) 20) (n := 2) (by omega)
  have a3 := nxtD_at (nxtD (nxtD d 20) 20) 2
  refine ⟨_, fun _ => call_next 1 (nxtD (nxtD d 20) 20) 2 (by omega) (by omega), ?_⟩
  have hS : ∃ b : Bool, ((nxt (nxtD (nxtD d 20) 20) 2 == 0) = b) ∧ (if nxt (nxtD (nxtD d 20) 20) 2 = 0 then (1 : Int) else 0) = bif b then 1 else 0 := ⟨nxt (nxtD (nxtD d 20) 20) 2 == 0, rfl, by
    by_cases h : nxt (nxtD (nxtD d 20) 20) 2 = 0
    · rw [if_pos h, h]; rfl
    · rw [if_neg h, beq_eq_false_iff_ne.2 h]; rfl⟩
  obtain ⟨b, hb1, hb2⟩ := hS
  unfold madeS madeC0
  rw [hb2]
  clear hb2
  conv => whnf
  rw [hb1]
  have hcall : PureCall Try.prog 9 [.pt 0 0 0, .int .i64 (nxt d 20), .int .i64 (nxt (nxtD d 20) 20), .int .i64 30, .int .i64 40, .bool b] [.box (eDk 1 (nxtD (nxtD (nxtD d 20) 20) 2))] ⟨.os 1000000000, [.box (eDk 1 (curveS (nxtD (nxtD (nxtD d 20) 20) 2) (nxt d 20) (nxt (nxtD d 20) 20) 30 40 (bif b then 1 else 0)).d)], [.row 0 35 2 (curveS (nxtD (nxtD (nxtD d 20) 20) 2) (nxt d 20) (nxt (nxtD d 20) 20) 30 40 (bif b then 1 else 0)).L.length (fl ePt (curveS (nxtD (nxtD (nxtD d 20) 20) 2) (nxt d 20) (nxt (nxtD d 20) 20) 30 40 (bif b then 1 else 0)).L)]⟩ := by
    cases b
    · exact call9o0 _ _ _ 30 40 (by omega) (by omega) (by omega) (by omega) (by omega)
    · exact call9o1 _ _ _ 30 40 (by omega) (by omega) (by omega) (by omega) (by omega)
  have hm := curve_made (nxtD (nxtD (nxtD d 20) 20) 2) (x := nxt d 20) (y := nxt (nxtD d 20) 20) (dx := 30) (dy := 40) (least := bif b then 1 else 0) (by omega) (by omega) (by omega) (by omega) (by cases b <;> simp)
  refine ⟨_, fun _ => hcall, ?_⟩
  clear hcall
  generalize curveS (nxtD (nxtD (nxtD d 20) 20) 2) (nxt d 20) (nxt (nxtD d 20) 20) 30 40 (bif b then 1 else 0) = S at hm ⊢
  obtain ⟨mc, hSd⟩ := hm
  have hcl := mc.len
  generalize S.L = c at mc hcl ⊢
  have hd2 : S.d.at_ ≤ 1030 := by omega
  generalize S.d = d' at hd2 ⊢
  unfold wrongS
  conv => whnf
  have r4 := nxt_lt d' (n := 10) (by omega)
  have a4 := nxtD_at d' 10
  refine ⟨_, fun _ => call_next 1 d' 10 (by omega) (by omega), ?_⟩
  have r5 := nxt_lt (nxtD d' 10) (n := c.length) (by omega)
  have a5 := nxtD_at (nxtD d' 10) c.length
  have r6 := nxt_lt (nxtD (nxtD d' 10) c.length) (n := 4) (by omega)
  have a6 := nxtD_at (nxtD (nxtD d' 10) c.length) 4
  conv => whnf
  refine ⟨?_, fun hc => ?_, fun hc => ?_⟩
  · (try conv => whnf)
    (repeat' (first | exact True.intro | exact fun _ h => h | refine inR64_of ?_ ?_ | apply And.intro | refine maxLen_ge ?_)) <;> (first | omega | (dsimp only; omega) | (dsimp only [List.length_cons, List.length_nil]; omega) | (intro hg; rw [hg]; rfl) | (intro hg hh; rw [hg, hh]; rfl) | (intro hg; simp [-List.getD_eq_getElem?_getD, -Int.default_eq_zero] at hg; first | omega | (refine inR64_of ?_ ?_ <;> omega) | (constructor <;> omega)) | (simp [-List.getD_eq_getElem?_getD, -Int.default_eq_zero]; done))
  · simp only [bif_t, bif_f, decide_eq_true_eq, decide_eq_false_iff_not, Bool.not_eq_true', Bool.not_eq_false', Bool.and_eq_true, Bool.or_eq_true, Bool.and_eq_false_iff, Bool.or_eq_false_iff, beq_iff_eq, bne_iff_ne, beq_eq_false_iff_ne, bne_eq_false_iff_eq, reduceCtorEq, false_and, and_false, true_and, and_true, or_false, false_or, or_true, true_or, not_true_eq_false, not_false_eq_true, Int.toNat_zero] at hc
    rw [if_pos hc]
    conv => whnf
    refine ⟨_, fun _ => call_next 1 (nxtD d' 10) c.length (by omega) (by omega), ?_⟩
    conv => whnf
    refine ⟨_, fun _ => call_next 1 (nxtD (nxtD d' 10) c.length) 4 (by omega) (by omega), ?_⟩
    generalize nxtD (nxtD (nxtD d' 10) c.length) 4 = d2
    generalize nxt (nxtD (nxtD d' 10) c.length) 4 = q at r6 ⊢
    clear a6
    generalize nxt (nxtD d' 10) c.length = j at r5 ⊢
    have hq : q = 0 ∨ q = 1 ∨ q = 2 ∨ q = 3 := by omega
    rcases hq with rfl | rfl | rfl | rfl
    · conv => whnf
      refine ⟨?_, [], ?_⟩
      · (try conv => whnf)
        (repeat' (first | exact True.intro | exact fun _ h => h | refine inR64_of ?_ ?_ | apply And.intro | refine maxLen_ge ?_)) <;> (first | omega | (dsimp only; omega) | (dsimp only [List.length_cons, List.length_nil]; omega) | (intro hg; rw [hg]; rfl) | (intro hg hh; rw [hg, hh]; rfl) | (intro hg; simp [-List.getD_eq_getElem?_getD, -Int.default_eq_zero] at hg; first | omega | (refine inR64_of ?_ ?_ <;> omega) | (constructor <;> omega)) | (simp [-List.getD_eq_getElem?_getD, -Int.default_eq_zero]; done))
      conv => whnf
      refine ⟨rfl, ?_, ?_, trivial⟩
      all_goals repeat' (first | exact True.intro | refine leF_cons rfl ?_ ?_ | refine leS_cons rfl ?_ ?_ | (show PLe _ _ _ _; conv => whnf) | (show SLe _ _ _ _; conv => whnf) | (show PLeL _ _ _ _; conv => whnf) | apply And.intro | rfl | exact Nat.le_refl _ | exact fun _ _ => rfl | exact rowEq0 _ _)
      all_goals first | (rw [List.length_set]; done) | (intro k hk; dsimp only; rw [set_row (by omega) k hk]; by_cases e : k = j.toNat <;> first | (rw [if_pos e, if_pos e]; rfl) | (rw [if_neg e, if_neg e])) | skip
    · conv => whnf
      refine ⟨?_, [], ?_⟩
      · (try conv => whnf)
        (repeat' (first | exact True.intro | exact fun _ h => h | refine inR64_of ?_ ?_ | apply And.intro | refine maxLen_ge ?_)) <;> (first | omega | (dsimp only; omega) | (dsimp only [List.length_cons, List.length_nil]; omega) | (intro hg; rw [hg]; rfl) | (intro hg hh; rw [hg, hh]; rfl) | (intro hg; simp [-List.getD_eq_getElem?_getD, -Int.default_eq_zero] at hg; first | omega | (refine inR64_of ?_ ?_ <;> omega) | (constructor <;> omega)) | (simp [-List.getD_eq_getElem?_getD, -Int.default_eq_zero]; done))
      conv => whnf
      refine ⟨rfl, ?_, ?_, trivial⟩
      all_goals repeat' (first | exact True.intro | refine leF_cons rfl ?_ ?_ | refine leS_cons rfl ?_ ?_ | (show PLe _ _ _ _; conv => whnf) | (show SLe _ _ _ _; conv => whnf) | (show PLeL _ _ _ _; conv => whnf) | apply And.intro | rfl | exact Nat.le_refl _ | exact fun _ _ => rfl | exact rowEq0 _ _)
      all_goals first | (rw [List.length_set]; done) | (intro k hk; dsimp only; rw [set_row (by omega) k hk]; by_cases e : k = j.toNat <;> first | (rw [if_pos e, if_pos e]; rfl) | (rw [if_neg e, if_neg e])) | skip
    · conv => whnf
      refine ⟨?_, [], ?_⟩
      · (try conv => whnf)
        (repeat' (first | exact True.intro | exact fun _ h => h | refine inR64_of ?_ ?_ | apply And.intro | refine maxLen_ge ?_)) <;> (first | omega | (dsimp only; omega) | (dsimp only [List.length_cons, List.length_nil]; omega) | (intro hg; rw [hg]; rfl) | (intro hg hh; rw [hg, hh]; rfl) | (intro hg; simp [-List.getD_eq_getElem?_getD, -Int.default_eq_zero] at hg; first | omega | (refine inR64_of ?_ ?_ <;> omega) | (constructor <;> omega)) | (simp [-List.getD_eq_getElem?_getD, -Int.default_eq_zero]; done))
      conv => whnf
      refine ⟨rfl, ?_, ?_, trivial⟩
      all_goals repeat' (first | exact True.intro | refine leF_cons rfl ?_ ?_ | refine leS_cons rfl ?_ ?_ | (show PLe _ _ _ _; conv => whnf) | (show SLe _ _ _ _; conv => whnf) | (show PLeL _ _ _ _; conv => whnf) | apply And.intro | rfl | exact Nat.le_refl _ | exact fun _ _ => rfl | exact rowEq0 _ _)
      all_goals first | (rw [List.length_set]; done) | (intro k hk; dsimp only; rw [set_row (by omega) k hk]; by_cases e : k = j.toNat <;> first | (rw [if_pos e, if_pos e]; rfl) | (rw [if_neg e, if_neg e])) | skip
    · conv => whnf
      refine ⟨?_, [], ?_⟩
      · (try conv => whnf)
        (repeat' (first | exact True.intro | exact fun _ h => h | refine inR64_of ?_ ?_ | apply And.intro | refine maxLen_ge ?_)) <;> (first | omega | (dsimp only; omega) | (dsimp only [List.length_cons, List.length_nil]; omega) | (intro hg; rw [hg]; rfl) | (intro hg hh; rw [hg, hh]; rfl) | (intro hg; simp [-List.getD_eq_getElem?_getD, -Int.default_eq_zero] at hg; first | omega | (refine inR64_of ?_ ?_ <;> omega) | (constructor <;> omega)) | (simp [-List.getD_eq_getElem?_getD, -Int.default_eq_zero]; done))
      conv => whnf
      refine ⟨rfl, ?_, ?_, trivial⟩
      all_goals repeat' (first | exact True.intro | refine leF_cons rfl ?_ ?_ | refine leS_cons rfl ?_ ?_ | (show PLe _ _ _ _; conv => whnf) | (show SLe _ _ _ _; conv => whnf) | (show PLeL _ _ _ _; conv => whnf) | apply And.intro | rfl | exact Nat.le_refl _ | exact fun _ _ => rfl | exact rowEq0 _ _)
      all_goals first | (rw [List.length_set]; done) | (intro k hk; dsimp only; rw [set_row (by omega) k hk]; by_cases e : k = j.toNat <;> first | (rw [if_pos e, if_pos e]; rfl) | (rw [if_neg e, if_neg e])) | skip
  simp only [bif_t, bif_f, decide_eq_true_eq, decide_eq_false_iff_not, Bool.not_eq_true', Bool.not_eq_false', Bool.and_eq_true, Bool.or_eq_true, Bool.and_eq_false_iff, Bool.or_eq_false_iff, beq_iff_eq, bne_iff_ne, beq_eq_false_iff_ne, bne_eq_false_iff_eq, reduceCtorEq, false_and, and_false, true_and, and_true, or_false, false_or, or_true, true_or, not_true_eq_false, not_false_eq_true, Int.toNat_zero] at hc
  rw [if_neg hc]
  conv => whnf
  refine ⟨?_, fun hc => ?_, fun hc => ?_⟩
  · (try conv => whnf)
    (repeat' (first | exact True.intro | exact fun _ h => h | refine inR64_of ?_ ?_ | apply And.intro | refine maxLen_ge ?_)) <;> (first | omega | (dsimp only; omega) | (dsimp only [List.length_cons, List.length_nil]; omega) | (intro hg; rw [hg]; rfl) | (intro hg hh; rw [hg, hh]; rfl) | (intro hg; simp [-List.getD_eq_getElem?_getD, -Int.default_eq_zero] at hg; first | omega | (refine inR64_of ?_ ?_ <;> omega) | (constructor <;> omega)) | (simp [-List.getD_eq_getElem?_getD, -Int.default_eq_zero]; done))
  · simp only [bif_t, bif_f, decide_eq_true_eq, decide_eq_false_iff_not, Bool.not_eq_true', Bool.not_eq_false', Bool.and_eq_true, Bool.or_eq_true, Bool.and_eq_false_iff, Bool.or_eq_false_iff, beq_iff_eq, bne_iff_ne, beq_eq_false_iff_ne, bne_eq_false_iff_eq, reduceCtorEq, false_and, and_false, true_and, and_true, or_false, false_or, or_true, true_or, not_true_eq_false, not_false_eq_true, Int.toNat_zero] at hc
    rw [if_pos hc]
    conv => whnf
    refine ⟨_, fun _ => call_next 1 (nxtD d' 10) c.length (by omega) (by omega), ?_⟩
    conv => whnf
    refine ⟨_, fun _ => call_next 1 (nxtD (nxtD d' 10) c.length) 4 (by omega) (by omega), ?_⟩
    generalize nxtD (nxtD (nxtD d' 10) c.length) 4 = d2
    generalize nxt (nxtD (nxtD d' 10) c.length) 4 = q at r6 ⊢
    clear a6
    generalize nxt (nxtD d' 10) c.length = j at r5 ⊢
    have hq : q = 0 ∨ q = 1 ∨ q = 2 ∨ q = 3 := by omega
    rcases hq with rfl | rfl | rfl | rfl
    · conv => whnf
      refine ⟨?_, [], ?_⟩
      · (try conv => whnf)
        (repeat' (first | exact True.intro | exact fun _ h => h | refine inR64_of ?_ ?_ | apply And.intro | refine maxLen_ge ?_)) <;> (first | omega | (dsimp only; omega) | (dsimp only [List.length_cons, List.length_nil]; omega) | (intro hg; rw [hg]; rfl) | (intro hg hh; rw [hg, hh]; rfl) | (intro hg; simp [-List.getD_eq_getElem?_getD, -Int.default_eq_zero] at hg; first | omega | (refine inR64_of ?_ ?_ <;> omega) | (constructor <;> omega)) | (simp [-List.getD_eq_getElem?_getD, -Int.default_eq_zero]; done))
      conv => whnf
      refine ⟨rfl, ?_, ?_, trivial⟩
      all_goals repeat' (first | exact True.intro | refine leF_cons rfl ?_ ?_ | refine leS_cons rfl ?_ ?_ | (show PLe _ _ _ _; conv => whnf) | (show SLe _ _ _ _; conv => whnf) | (show PLeL _ _ _ _; conv => whnf) | apply And.intro | rfl | exact Nat.le_refl _ | exact fun _ _ => rfl | exact rowEq0 _ _)
      all_goals first | (rw [List.length_set]; done) | (intro k hk; dsimp only; rw [set_row (by omega) k hk]; by_cases e : k = j.toNat <;> first | (rw [if_pos e, if_pos e]; rfl) | (rw [if_neg e, if_neg e])) | skip
    · conv => whnf
      refine ⟨?_, [], ?_⟩
      · (try conv => whnf)
        (repeat' (first | exact True.intro | exact fun _ h => h | refine inR64_of ?_ ?_ | apply And.intro | refine maxLen_ge ?_)) <;> (first | omega | (dsimp only; omega) | (dsimp only [List.length_cons, List.length_nil]; omega) | (intro hg; rw [hg]; rfl) | (intro hg hh; rw [hg, hh]; rfl) | (intro hg; simp [-List.getD_eq_getElem?_getD, -Int.default_eq_zero] at hg; first | omega | (refine inR64_of ?_ ?_ <;> omega) | (constructor <;> omega)) | (simp [-List.getD_eq_getElem?_getD, -Int.default_eq_zero]; done))
      conv => whnf
      refine ⟨rfl, ?_, ?_, trivial⟩
      all_goals repeat' (first | exact True.intro | refine leF_cons rfl ?_ ?_ | refine leS_cons rfl ?_ ?_ | (show PLe _ _ _ _; conv => whnf) | (show SLe _ _ _ _; conv => whnf) | (show PLeL _ _ _ _; conv => whnf) | apply And.intro | rfl | exact Nat.le_refl _ | exact fun _ _ => rfl | exact rowEq0 _ _)
      all_goals first | (rw [List.length_set]; done) | (intro k hk; dsimp only; rw [set_row (by omega) k hk]; by_cases e : k = j.toNat <;> first | (rw [if_pos e, if_pos e]; rfl) | (rw [if_neg e, if_neg e])) | skip
    · conv => whnf
      refine ⟨?_, [], ?_⟩
      · (try conv => whnf)
        (repeat' (first | exact True.intro | exact fun _ h => h | refine inR64_of ?_ ?_ | apply And.intro | refine maxLen_ge ?_)) <;> (first | omega | (dsimp only; omega) | (dsimp only [List.length_cons, List.length_nil]; omega) | (intro hg; rw [hg]; rfl) | (intro hg hh; rw [hg, hh]; rfl) | (intro hg; simp [-List.getD_eq_getElem?_getD, -Int.default_eq_zero] at hg; first | omega | (refine inR64_of ?_ ?_ <;> omega) | (constructor <;> omega)) | (simp [-List.getD_eq_getElem?_getD, -Int.default_eq_zero]; done))
      conv => whnf
      refine ⟨rfl, ?_, ?_, trivial⟩
      all_goals repeat' (first | exact True.intro | refine leF_cons rfl ?_ ?_ | refine leS_cons rfl ?_ ?_ | (show PLe _ _ _ _; conv => whnf) | (show SLe _ _ _ _; conv => whnf) | (show PLeL _ _ _ _; conv => whnf) | apply And.intro | rfl | exact Nat.le_refl _ | exact fun _ _ => rfl | exact rowEq0 _ _)
      all_goals first | (rw [List.length_set]; done) | (intro k hk; dsimp only; rw [set_row (by omega) k hk]; by_cases e : k = j.toNat <;> first | (rw [if_pos e, if_pos e]; rfl) | (rw [if_neg e, if_neg e])) | skip
    · conv => whnf
      refine ⟨?_, [], ?_⟩
      · (try conv => whnf)
        (repeat' (first | exact True.intro | exact fun _ h => h | refine inR64_of ?_ ?_ | apply And.intro | refine maxLen_ge ?_)) <;> (first | omega | (dsimp only; omega) | (dsimp only [List.length_cons, List.length_nil]; omega) | (intro hg; rw [hg]; rfl) | (intro hg hh; rw [hg, hh]; rfl) | (intro hg; simp [-List.getD_eq_getElem?_getD, -Int.default_eq_zero] at hg; first | omega | (refine inR64_of ?_ ?_ <;> omega) | (constructor <;> omega)) | (simp [-List.getD_eq_getElem?_getD, -Int.default_eq_zero]; done))
      conv => whnf
      refine ⟨rfl, ?_, ?_, trivial⟩
      all_goals repeat' (first | exact True.intro | refine leF_cons rfl ?_ ?_ | refine leS_cons rfl ?_ ?_ | (show PLe _ _ _ _; conv => whnf) | (show SLe _ _ _ _; conv => whnf) | (show PLeL _ _ _ _; conv => whnf) | apply And.intro | rfl | exact Nat.le_refl _ | exact fun _ _ => rfl | exact rowEq0 _ _)
      all_goals first | (rw [List.length_set]; done) | (intro k hk; dsimp only; rw [set_row (by omega) k hk]; by_cases e : k = j.toNat <;> first | (rw [if_pos e, if_pos e]; rfl) | (rw [if_neg e, if_neg e])) | skip
  simp only [bif_t, bif_f, decide_eq_true_eq, decide_eq_false_iff_not, Bool.not_eq_true', Bool.not_eq_false', Bool.and_eq_true, Bool.or_eq_true, Bool.and_eq_false_iff, Bool.or_eq_false_iff, beq_iff_eq, bne_iff_ne, beq_eq_false_iff_ne, bne_eq_false_iff_eq, reduceCtorEq, false_and, and_false, true_and, and_true, or_false, false_or, or_true, true_or, not_true_eq_false, not_false_eq_true, Int.toNat_zero] at hc
  rw [if_neg hc]
  conv => whnf
  refine ⟨?_, fun hc => ?_, fun hc => ?_⟩
  · (try conv => whnf)
    (repeat' (first | exact True.intro | exact fun _ h => h | refine inR64_of ?_ ?_ | apply And.intro | refine maxLen_ge ?_)) <;> (first | omega | (dsimp only; omega) | (dsimp only [List.length_cons, List.length_nil]; omega) | (intro hg; rw [hg]; rfl) | (intro hg hh; rw [hg, hh]; rfl) | (intro hg; simp [-List.getD_eq_getElem?_getD, -Int.default_eq_zero] at hg; first | omega | (refine inR64_of ?_ ?_ <;> omega) | (constructor <;> omega)) | (simp [-List.getD_eq_getElem?_getD, -Int.default_eq_zero]; done))
  · simp only [bif_t, bif_f, decide_eq_true_eq, decide_eq_false_iff_not, Bool.not_eq_true', Bool.not_eq_false', Bool.and_eq_true, Bool.or_eq_true, Bool.and_eq_false_iff, Bool.or_eq_false_iff, beq_iff_eq, bne_iff_ne, beq_eq_false_iff_ne, bne_eq_false_iff_eq, reduceCtorEq, false_and, and_false, true_and, and_true, or_false, false_or, or_true, true_or, not_true_eq_false, not_false_eq_true, Int.toNat_zero] at hc
    rw [if_pos hc]
    conv => whnf
    refine ⟨?_, [], ?_⟩
    · (try conv => whnf)
      (repeat' (first | exact True.intro | exact fun _ h => h | refine inR64_of ?_ ?_ | apply And.intro | refine maxLen_ge ?_)) <;> (first | omega | (dsimp only; omega) | (dsimp only [List.length_cons, List.length_nil]; omega) | (intro hg; rw [hg]; rfl) | (intro hg hh; rw [hg, hh]; rfl) | (intro hg; simp [-List.getD_eq_getElem?_getD, -Int.default_eq_zero] at hg; first | omega | (refine inR64_of ?_ ?_ <;> omega) | (constructor <;> omega)) | (simp [-List.getD_eq_getElem?_getD, -Int.default_eq_zero]; done))
    conv => whnf
    refine ⟨rfl, ?_, ?_, trivial⟩
    all_goals repeat' (first | exact True.intro | refine leF_cons rfl ?_ ?_ | refine leS_cons rfl ?_ ?_ | (show PLe _ _ _ _; conv => whnf) | (show SLe _ _ _ _; conv => whnf) | (show PLeL _ _ _ _; conv => whnf) | apply And.intro | rfl | exact Nat.le_refl _ | exact fun _ _ => rfl | exact rowEq0 _ _)
    · show c.length + 1 = (c ++ [_]).length
      rw [List.length_append]; rfl
    · have hps := fl_push ePt c (c.getD (c.length - 1) default)
      rw [show ((c.length : Int) - 1).toNat = c.length - 1 by omega]
      exact hps
  · simp only [bif_t, bif_f, decide_eq_true_eq, decide_eq_false_iff_not, Bool.not_eq_true', Bool.not_eq_false', Bool.and_eq_true, Bool.or_eq_true, Bool.and_eq_false_iff, Bool.or_eq_false_iff, beq_iff_eq, bne_iff_ne, beq_eq_false_iff_ne, bne_eq_false_iff_eq, reduceCtorEq, false_and, and_false, true_and, and_true, or_false, false_or, or_true, true_or, not_true_eq_false, not_false_eq_true, Int.toNat_zero] at hc
    rw [if_neg hc]
    conv => whnf
    refine ⟨?_, [], ?_⟩
    · (try conv => whnf)
      (repeat' (first | exact True.intro | exact fun _ h => h | refine inR64_of ?_ ?_ | apply And.intro | refine maxLen_ge ?_)) <;> (first | omega | (dsimp only; omega) | (dsimp only [List.length_cons, List.length_nil]; omega) | (intro hg; rw [hg]; rfl) | (intro hg hh; rw [hg, hh]; rfl) | (intro hg; simp [-List.getD_eq_getElem?_getD, -Int.default_eq_zero] at hg; first | omega | (refine inR64_of ?_ ?_ <;> omega) | (constructor <;> omega)) | (simp [-List.getD_eq_getElem?_getD, -Int.default_eq_zero]; done))
    conv => whnf
    refine ⟨rfl, ?_, ?_, trivial⟩
    all_goals repeat' (first | exact True.intro | refine leF_cons rfl ?_ ?_ | refine leS_cons rfl ?_ ?_ | (show PLe _ _ _ _; conv => whnf) | (show SLe _ _ _ _; conv => whnf) | (show PLeL _ _ _ _; conv => whnf) | apply And.intro | rfl | exact Nat.le_refl _ | exact fun _ _ => rfl | exact rowEq0 _ _)
end Pv
end Go.Proofs.Ytedoglkonfckkaa
