/- LAW 08, THE WALKS: lists of verdicts. -/
import Derived.Test.YtogoplhikmmggaaQ10
set_option linter.unusedSimpArgs false
set_option linter.unusedVariables false
namespace Go.Proofs.Ytogoplhikmmggaa
namespace Pv
def c43L1 : C := (.seq (.seq (.reg [⟨(some 23), 368, none, .mv (.t 7)⟩,
    ⟨(some 24), 384, none, .mv (.t 2)⟩,
    ⟨(some 25), 400, none, .bi false .leq (.t 23) (.t 24)⟩])
  (.cond (.t 25) .skip (.exit 0)))
  (.seq (.block 1 (.seq (.drw [⟨(some 28), 448, none, .mv (.t 1)⟩,
    ⟨(some 29), 464, none, .mv (.t 7)⟩,
    ⟨(some 30), 480, none, .ia 4 (.t 28) (.t 29)⟩,
    ⟨(some 31), 496, none, .fa 3 (.t 30)⟩,
    ⟨(some 32), 512, none, .ld 1 false (.t 31)⟩,
    ⟨(some 33), 528, none, .bi false .eql (.t 32) (.c (.int .i64 2))⟩,
    ⟨(some 34), 544, none, .mv (.t 33)⟩,
    ⟨(some 35), 560, (some (34, false)), .mv (.t 1)⟩,
    ⟨(some 36), 576, (some (34, false)), .mv (.t 7)⟩,
    ⟨(some 37), 592, (some (34, false)), .ia 4 (.t 35) (.t 36)⟩,
    ⟨(some 38), 608, (some (34, false)), .fa 2 (.t 37)⟩,
    ⟨(some 39), 624, (some (34, false)), .ld 1 false (.t 38)⟩,
    ⟨(some 40), 640, (some (34, false)), .mv (.t 1)⟩,
    ⟨(some 41), 656, (some (34, false)), .mv (.t 2)⟩,
    ⟨(some 42), 672, (some (34, false)), .ia 4 (.t 40) (.t 41)⟩,
    ⟨(some 43), 688, (some (34, false)), .fa 2 (.t 42)⟩,
    ⟨(some 44), 704, (some (34, false)), .ld 1 false (.t 43)⟩,
    ⟨(some 45), 720, (some (34, false)), .bi false .neq (.t 39) (.t 44)⟩,
    ⟨(some 46), 736, none, .pick (.t 34) (.c (.bool true)) (.t 45)⟩]
    [(0, 1, 28), (7, 8, 35), (7, 12, 35), (7, 13, 35), (7, 14, 35), (7, 15, 35), (7, 16, 35), (8, 12, 36), (8, 13, 36), (8, 14, 36), (8, 15, 36), (8, 16, 36), (9, 12, 37), (9, 13, 37), (9, 14, 37), (9, 15, 37), (9, 16, 37), (10, 12, 38), (10, 13, 38), (10, 14, 38), (10, 15, 38), (10, 16, 38), (11, 12, 39), (11, 13, 39), (11, 14, 39), (11, 15, 39), (11, 16, 39), (12, 13, 40)])
  (.cond (.t 46) (.seq (.reg [⟨(some 6), 96, none, .mv (.c (.bool false))⟩])
  .ret) .skip)))
  (.reg [⟨(some 26), 416, none, .mv (.t 7)⟩,
    ⟨(some 27), 432, none, .bi false .add (.t 26) (.c (.int .i64 1))⟩,
    ⟨(some 7), 112, none, .mv (.t 27)⟩])))
def c43 : C := (.seq (.reg [⟨(some 3), 48, none, .bx 4 (.t 0)⟩,
    ⟨(some 6), 96, none, .mv (.c (.bool false))⟩])
  (.seq (.seq (.reg [⟨(some 8), 128, none, .fa 3 (.t 3)⟩,
    ⟨(some 9), 144, none, .ld 1 false (.t 8)⟩,
    ⟨(some 10), 160, none, .bi false .eql (.t 9) (.c (.int .i64 0))⟩,
    ⟨(some 11), 176, none, .mv (.t 10)⟩,
    ⟨(some 12), 192, (some (11, false)), .mv (.t 2)⟩,
    ⟨(some 13), 208, (some (11, false)), .bi false .add (.t 12) (.c (.int .i64 1))⟩,
    ⟨(some 14), 224, (some (11, false)), .fa 3 (.t 3)⟩,
    ⟨(some 15), 240, (some (11, false)), .ld 1 false (.t 14)⟩,
    ⟨(some 16), 256, (some (11, false)), .bi false .lss (.t 13) (.t 15)⟩,
    ⟨(some 17), 272, none, .pick (.t 11) (.c (.bool true)) (.t 16)⟩])
  (.cond (.t 17) (.seq (.reg [⟨(some 6), 96, none, .mv (.c (.bool false))⟩])
  .ret) .skip))
  (.seq (.seq (.reg [⟨(some 18), 288, none, .mv (.t 2)⟩,
    ⟨(some 19), 304, none, .fa 3 (.t 3)⟩,
    ⟨(some 20), 320, none, .ld 1 false (.t 19)⟩,
    ⟨(some 21), 336, none, .bi false .sub (.t 18) (.t 20)⟩,
    ⟨(some 22), 352, none, .bi false .add (.t 21) (.c (.int .i64 1))⟩,
    ⟨(some 7), 112, none, .mv (.t 22)⟩])
  (.block 0 (.loop c43L1)))
  (.seq (.reg [⟨(some 6), 96, none, .mv (.c (.bool true))⟩])
  .ret))))
theorem fits43 : fits Try.prog false Try.f43 3 47 [(6, none)] = some c43.er := by kernel_rfl


def vSt (c : Ck) (l : List Rd) : Nat → List Int × Int
  | 0 => ([], -1)
  | i + 1 => ((vSt c l i).1 ++ [verdF c l (vSt c l i).2 i], if verdF c l (vSt c l i).2 i = 1 then (i : Int) else (vSt c l i).2)
theorem vSt_len (c : Ck) (l : List Rd) : ∀ i, (vSt c l i).1.length = i
  | 0 => rfl
  | i + 1 => by show (_ ++ [_]).length = _; rw [List.length_append, vSt_len c l i]; rfl
theorem vSt_last (c : Ck) (l : List Rd) : ∀ i, -1 ≤ (vSt c l i).2 ∧ (vSt c l i).2 < i
  | 0 => by unfold vSt; omega
  | i + 1 => by
    have := vSt_last c l i
    show -1 ≤ (if _ then _ else _) ∧ _ < _
    simp only [vSt]
    split <;> omega
def verdictsF (c : Ck) (l : List Rd) : List Int × Int := if ckErr c ≠ 0 then ([], ckErr c) else if allF l ≠ 0 then ([], allF l) else ((vSt c l l.length).1, 0)
theorem ck_ok {c : Ck} (h : ckErr c = 0) : ckOk c := by
  unfold ckErr at h
  split at h
  · assumption
  · cases h
theorem rd_ok {l : List Rd} (h : allF l = 0) (i : Nat) (hi : i < l.length) : rdErr (l.getD i default) = 0 := scan_zero h i (by omega) (by omega)
theorem rd_v {r : Rd} (h : rdErr r = 0) : (0 ≤ r.g ∧ r.g ≤ 255) ∧ (0 ≤ r.t ∧ r.t ≤ 16777216) ∧ (0 ≤ r.v ∧ r.v ≤ 1073741824) ∧ 0 ≤ r.f ∧ r.f ≤ 2 := by
  unfold rdErr at h
  split at h
  · cases h
  split at h
  · cases h
  split at h
  · cases h
  split at h
  · cases h
  omega

set_option maxRecDepth 100000 in
set_option maxHeartbeats 4000000 in
theorem call25 (c : Ck) (l : List Rd) (hl : l.length ≤ 8796093022208) : PureCall Try.prog 25 [.agg (eCk c), .sl 2 4 l.length (fl eRd l)] [] ⟨.tup [.sl 0 1 (verdictsF c l).1.length (fl eInt (verdictsF c l).1), .int .i64 (verdictsF c l).2], [], []⟩ := by
  refine pure_call mix Try.func25 fits25 rfl ?_
  conv => whnf
  refine ⟨_, fun _ => call27 c, ?_⟩
  conv => whnf
  refine ⟨?_, fun hc => ?_, fun hc => ?_⟩
  · (try conv => whnf)
    (repeat' (first | exact True.intro | exact fun _ h => h | refine inR64_of ?_ ?_ | apply And.intro | refine maxLen_ge ?_)) <;> (first | omega | (dsimp only; omega) | (dsimp only [List.length_cons, List.length_nil]; omega) | (intro hg; rw [hg]; rfl) | (intro hg hh; rw [hg, hh]; rfl) | (intro hg; simp [-List.getD_eq_getElem?_getD, -Int.default_eq_zero] at hg; first | omega | (refine inR64_of ?_ ?_ <;> omega) | (constructor <;> omega)) | (simp [-List.getD_eq_getElem?_getD, -Int.default_eq_zero]; done))
  · simp only [bif_t, bif_f, decide_eq_true_eq, decide_eq_false_iff_not, Bool.not_eq_true', Bool.not_eq_false', Bool.and_eq_true, Bool.or_eq_true, Bool.and_eq_false_iff, Bool.or_eq_false_iff, beq_iff_eq, bne_iff_ne, beq_eq_false_iff_ne, bne_eq_false_iff_eq, reduceCtorEq, false_and, and_false, true_and, and_true, or_false, false_or, or_true, true_or, not_true_eq_false, not_false_eq_true, Int.toNat_zero] at hc
    rw [show verdictsF c l = ([], ckErr c) by unfold verdictsF; rw [if_pos hc]]
    conv => whnf
    refine ⟨?_, [], ?_⟩
    · (try conv => whnf)
      (repeat' (first | exact True.intro | exact fun _ h => h | refine inR64_of ?_ ?_ | apply And.intro | refine maxLen_ge ?_)) <;> (first | omega | (dsimp only; omega) | (dsimp only [List.length_cons, List.length_nil]; omega) | (intro hg; rw [hg]; rfl) | (intro hg hh; rw [hg, hh]; rfl) | (intro hg; simp [-List.getD_eq_getElem?_getD, -Int.default_eq_zero] at hg; first | omega | (refine inR64_of ?_ ?_ <;> omega) | (constructor <;> omega)) | (simp [-List.getD_eq_getElem?_getD, -Int.default_eq_zero]; done))
    conv => whnf
    refine ⟨rfl, ?_, trivial, trivial⟩
    all_goals repeat' (first | exact True.intro | refine leF_cons rfl ?_ ?_ | refine leS_cons rfl ?_ ?_ | (show PLe _ _ _ _; conv => whnf) | (show SLe _ _ _ _; conv => whnf) | (show PLeL _ _ _ _; conv => whnf) | apply And.intro | rfl | exact Nat.le_refl _ | exact fun _ _ => rfl | exact rowEq0 _ _)
  simp only [bif_t, bif_f, decide_eq_true_eq, decide_eq_false_iff_not, Bool.not_eq_true', Bool.not_eq_false', Bool.and_eq_true, Bool.or_eq_true, Bool.and_eq_false_iff, Bool.or_eq_false_iff, beq_iff_eq, bne_iff_ne, beq_eq_false_iff_ne, bne_eq_false_iff_eq, reduceCtorEq, false_and, and_false, true_and, and_true, or_false, false_or, or_true, true_or, not_true_eq_false, not_false_eq_true, Int.toNat_zero] at hc
  have hck : ckErr c = 0 := by omega
  have hc0 := ck_ok hck
  conv => whnf
  refine ⟨_, fun _ => call40 _ l (by omega), ?_⟩
  conv => whnf
  refine ⟨?_, fun hc => ?_, fun hc => ?_⟩
  · (try conv => whnf)
    (repeat' (first | exact True.intro | exact fun _ h => h | refine inR64_of ?_ ?_ | apply And.intro | refine maxLen_ge ?_)) <;> (first | omega | (dsimp only; omega) | (dsimp only [List.length_cons, List.length_nil]; omega) | (intro hg; rw [hg]; rfl) | (intro hg hh; rw [hg, hh]; rfl) | (intro hg; simp [-List.getD_eq_getElem?_getD, -Int.default_eq_zero] at hg; first | omega | (refine inR64_of ?_ ?_ <;> omega) | (constructor <;> omega)) | (simp [-List.getD_eq_getElem?_getD, -Int.default_eq_zero]; done))
  · simp only [bif_t, bif_f, decide_eq_true_eq, decide_eq_false_iff_not, Bool.not_eq_true', Bool.not_eq_false', Bool.and_eq_true, Bool.or_eq_true, Bool.and_eq_false_iff, Bool.or_eq_false_iff, beq_iff_eq, bne_iff_ne, beq_eq_false_iff_ne, bne_eq_false_iff_eq, reduceCtorEq, false_and, and_false, true_and, and_true, or_false, false_or, or_true, true_or, not_true_eq_false, not_false_eq_true, Int.toNat_zero] at hc
    rw [show verdictsF c l = ([], allF l) by unfold verdictsF; rw [if_neg (by omega), if_pos hc]]
    conv => whnf
    refine ⟨?_, [], ?_⟩
    · (try conv => whnf)
      (repeat' (first | exact True.intro | exact fun _ h => h | refine inR64_of ?_ ?_ | apply And.intro | refine maxLen_ge ?_)) <;> (first | omega | (dsimp only; omega) | (dsimp only [List.length_cons, List.length_nil]; omega) | (intro hg; rw [hg]; rfl) | (intro hg hh; rw [hg, hh]; rfl) | (intro hg; simp [-List.getD_eq_getElem?_getD, -Int.default_eq_zero] at hg; first | omega | (refine inR64_of ?_ ?_ <;> omega) | (constructor <;> omega)) | (simp [-List.getD_eq_getElem?_getD, -Int.default_eq_zero]; done))
    conv => whnf
    refine ⟨rfl, ?_, trivial, trivial⟩
    all_goals repeat' (first | exact True.intro | refine leF_cons rfl ?_ ?_ | refine leS_cons rfl ?_ ?_ | (show PLe _ _ _ _; conv => whnf) | (show SLe _ _ _ _; conv => whnf) | (show PLeL _ _ _ _; conv => whnf) | apply And.intro | rfl | exact Nat.le_refl _ | exact fun _ _ => rfl | exact rowEq0 _ _)
  simp only [bif_t, bif_f, decide_eq_true_eq, decide_eq_false_iff_not, Bool.not_eq_true', Bool.not_eq_false', Bool.and_eq_true, Bool.or_eq_true, Bool.and_eq_false_iff, Bool.or_eq_false_iff, beq_iff_eq, bne_iff_ne, beq_eq_false_iff_ne, bne_eq_false_iff_eq, reduceCtorEq, false_and, and_false, true_and, and_true, or_false, false_or, or_true, true_or, not_true_eq_false, not_false_eq_true, Int.toNat_zero] at hc
  have hal : allF l = 0 := by omega
  have hvv : ∀ k, k < l.length → 0 ≤ (l.getD k default).v ∧ (l.getD k default).v ≤ 1073741824 := fun k hk => (rd_v (rd_ok hal k hk)).2.2.1
  rw [show verdictsF c l = ((vSt c l l.length).1, 0) by unfold verdictsF; rw [if_neg (by omega), if_neg (by omega)]]
  conv => whnf
  refine ⟨?_, ?_⟩
  · (try conv => whnf)
    (repeat' (first | exact True.intro | exact fun _ h => h | refine inR64_of ?_ ?_ | apply And.intro | refine maxLen_ge ?_)) <;> (first | omega | (dsimp only; omega) | (dsimp only [List.length_cons, List.length_nil]; omega) | (intro hg; rw [hg]; rfl) | (intro hg hh; rw [hg, hh]; rfl) | (intro hg; simp [-List.getD_eq_getElem?_getD, -Int.default_eq_zero] at hg; first | omega | (refine inR64_of ?_ ?_ <;> omega) | (constructor <;> omega)) | (simp [-List.getD_eq_getElem?_getD, -Int.default_eq_zero]; done))
  refine LSem.adopt 9 1000000 3 1 1 rfl rfl ?_
  refine LSem.loop (n := 38) mix (α := Nat) (fun i => i ≤ l.length)
    (fun i => [(1, .sl 2 4 l.length (fl eRd l)), (8, .pt 384 0 0), (9, .os 1000000), (25, .sl 2 4 l.length (fl eRd l)), (26, .int .i64 l.length), (27, .int .i64 i)])
    (fun i => [(384, .box (wC c l (vSt c l i).2)), (1000000, .row 0 3 1 i (fl eInt (vSt c l i).1))]) (fun i => l.length - i) 0 ?_ ?_ ?_
  · exact Nat.zero_le _
  · refine ⟨rfl, rfl, ?_, ?_⟩
    all_goals repeat' (first | exact True.intro | refine leF_cons rfl ?_ ?_ | refine leS_cons rfl ?_ ?_ | (show PLe _ _ _ _; conv => whnf) | (show SLe _ _ _ _; conv => whnf) | (show PLeL _ _ _ _; conv => whnf) | apply And.intro | rfl | exact Nat.le_refl _ | exact fun _ _ => rfl | exact rowEq0 _ _)
  · intro i hi
    have hj : ((i : Int)).toNat = i := by omega
    have hlast := vSt_last c l i
    conv => whnf
    refine ⟨trivial, fun hc => ?_, fun hc => ?_⟩
    · replace hc := of_decide_eq_true hc
      have hlt : i < l.length := by omega
      have hps := fl_push eInt (vSt c l i).1 (verdF c l (vSt c l i).2 i)
      rw [vSt_len] at hps
      conv => whnf
      refine ⟨_, fun _ => call41 c l (vSt c l i).2 i hlt (by omega) hlast hvv hc0, ?_⟩
      conv => whnf
      refine ⟨?_, i + 1, (by omega : i + 1 ≤ l.length), ?_, rfl, rfl, ?_, ?_⟩
      · (try conv => whnf)
        (repeat' (first | exact True.intro | exact fun _ h => h | refine inR64_of ?_ ?_ | apply And.intro | refine maxLen_ge ?_)) <;> (first | omega | (dsimp only; omega) | (dsimp only [List.length_cons, List.length_nil]; omega) | (intro hg; rw [hg]; rfl) | (intro hg hh; rw [hg, hh]; rfl) | (intro hg; simp [-List.getD_eq_getElem?_getD, -Int.default_eq_zero] at hg; first | omega | (refine inR64_of ?_ ?_ <;> omega) | (constructor <;> omega)) | (simp [-List.getD_eq_getElem?_getD, -Int.default_eq_zero]; done))
      · omega
      all_goals repeat' (first | exact True.intro | refine leF_cons rfl ?_ ?_ | refine leS_cons rfl ?_ ?_ | (show PLe _ _ _ _; conv => whnf) | (show SLe _ _ _ _; conv => whnf) | (show PLeL _ _ _ _; conv => whnf) | apply And.intro | rfl | exact Nat.le_refl _ | exact fun _ _ => rfl | exact rowEq0 _ _)
      all_goals first | omega | exact hps | skip
    · replace hc := of_decide_eq_false hc
      have : i = l.length := by omega
      subst this
      have hll := vSt_len c l l.length
      generalize (vSt c l l.length).1 = V at hll ⊢
      rw [← hll]
      conv => whnf
      refine ⟨?_, [], ?_⟩
      · (try conv => whnf)
        (repeat' (first | exact True.intro | exact fun _ h => h | refine inR64_of ?_ ?_ | apply And.intro | refine maxLen_ge ?_)) <;> (first | omega | (dsimp only; omega) | (dsimp only [List.length_cons, List.length_nil]; omega) | (intro hg; rw [hg]; rfl) | (intro hg hh; rw [hg, hh]; rfl) | (intro hg; simp [-List.getD_eq_getElem?_getD, -Int.default_eq_zero] at hg; first | omega | (refine inR64_of ?_ ?_ <;> omega) | (constructor <;> omega)) | (simp [-List.getD_eq_getElem?_getD, -Int.default_eq_zero]; done))
      conv => whnf
      refine ⟨rfl, ?_, trivial, trivial⟩
      all_goals repeat' (first | exact True.intro | refine leF_cons rfl ?_ ?_ | refine leS_cons rfl ?_ ?_ | (show PLe _ _ _ _; conv => whnf) | (show SLe _ _ _ _; conv => whnf) | (show PLeL _ _ _ _; conv => whnf) | apply And.intro | rfl | exact Nat.le_refl _ | exact fun _ _ => rfl | exact rowEq0 _ _)

theorem t4_iff (c : Ck) (l : List Rd) (i : Nat) (hi : i < l.length) (hs : 0 ≤ c.s) : t4 c l i = true ↔ ¬ (c.s = 0 ∨ (i : Int) + 1 < c.s) ∧ ∀ k : Nat, (i : Int) + 1 - c.s ≤ k → k ≤ i → offP l i (l.getD k default) = false := by
  unfold t4
  by_cases h : c.s = 0 ∨ (i : Int) + 1 < c.s
  · rw [decide_eq_true h]; simp [h]
  · rw [decide_eq_false h]
    have hsl : (subL l c i).length = c.s.toNat := by unfold subL; rw [List.length_take, List.length_drop]; omega
    have hsg : ∀ k, k < c.s.toNat → (subL l c i).getD k default = l.getD (((i : Int) + 1 - c.s).toNat + k) default := fun k hk => by
      unfold subL
      rw [List.getD_eq_getElem?_getD, List.getElem?_take, if_pos hk, List.getElem?_drop, List.getD_eq_getElem?_getD]
    have hneg : (!decide (0 ≤ ixG (offP l i) (subL l c i) 0 (subL l c i).length)) = true ↔ ixG (offP l i) (subL l c i) 0 (subL l c i).length < 0 := by simp
    rw [cond_false, hneg, ixG_neg, hsl]
    refine ⟨fun hh => ⟨h, fun k h1 h2 => ?_⟩, fun hh k h1 h2 => ?_⟩
    · have := hh (k - ((i : Int) + 1 - c.s).toNat) (by omega) (by omega)
      rwa [hsg _ (by omega), show ((i : Int) + 1 - c.s).toNat + (k - ((i : Int) + 1 - c.s).toNat) = k by omega] at this
    · rw [hsg _ (by omega)]
      exact hh.2 _ (by omega) (by omega)

set_option maxRecDepth 100000 in
set_option maxHeartbeats 4000000 in
theorem call43 (τ : Nat) (c : Ck) (l : List Rd) (i : Nat) (hi : i < l.length) (hl : l.length ≤ 4611686018427387904) (hc0 : ckOk c) : PureCall Try.prog 43 [.agg (eCk c), .sl τ 4 l.length (fl eRd l), .int .i64 i] [] ⟨.bool (t4 c l i), [], []⟩ := by
  have hj : ((i : Int)).toNat = i := by omega
  unfold ckOk at hc0
  have ht := t4_iff c l i hi (by omega)
  refine pure_call mix Try.func43 fits43 rfl ?_
  conv => whnf
  refine ⟨?_, fun hc => ?_, fun hc => ?_⟩
  · (try conv => whnf)
    (repeat' (first | exact True.intro | exact fun _ h => h | refine inR64_of ?_ ?_ | apply And.intro | refine maxLen_ge ?_)) <;> (first | omega | (dsimp only; omega) | (dsimp only [List.length_cons, List.length_nil]; omega) | (intro hg; rw [hg]; rfl) | (intro hg hh; rw [hg, hh]; rfl) | (intro hg; simp [-List.getD_eq_getElem?_getD, -Int.default_eq_zero] at hg; first | omega | (refine inR64_of ?_ ?_ <;> omega) | (constructor <;> omega)) | (simp [-List.getD_eq_getElem?_getD, -Int.default_eq_zero]; done))
  · simp only [bif_t, bif_f, decide_eq_true_eq, decide_eq_false_iff_not, Bool.not_eq_true', Bool.not_eq_false', Bool.and_eq_true, Bool.or_eq_true, Bool.and_eq_false_iff, Bool.or_eq_false_iff, beq_iff_eq, bne_iff_ne, beq_eq_false_iff_ne, bne_eq_false_iff_eq, reduceCtorEq, false_and, and_false, true_and, and_true, or_false, false_or, or_true, true_or, not_true_eq_false, not_false_eq_true, Int.toNat_zero] at hc
    rw [show t4 c l i = false by cases h : t4 c l i with | false => rfl | true => exact absurd (ht.1 h).1 (by omega)]
    conv => whnf
    refine ⟨?_, [], ?_⟩
    · (try conv => whnf)
      (repeat' (first | exact True.intro | exact fun _ h => h | refine inR64_of ?_ ?_ | apply And.intro | refine maxLen_ge ?_)) <;> (first | omega | (dsimp only; omega) | (dsimp only [List.length_cons, List.length_nil]; omega) | (intro hg; rw [hg]; rfl) | (intro hg hh; rw [hg, hh]; rfl) | (intro hg; simp [-List.getD_eq_getElem?_getD, -Int.default_eq_zero] at hg; first | omega | (refine inR64_of ?_ ?_ <;> omega) | (constructor <;> omega)) | (simp [-List.getD_eq_getElem?_getD, -Int.default_eq_zero]; done))
    conv => whnf
    refine ⟨rfl, ?_, trivial, trivial⟩
    all_goals repeat' (first | exact True.intro | refine leF_cons rfl ?_ ?_ | refine leS_cons rfl ?_ ?_ | (show PLe _ _ _ _; conv => whnf) | (show SLe _ _ _ _; conv => whnf) | (show PLeL _ _ _ _; conv => whnf) | apply And.intro | rfl | exact Nat.le_refl _ | exact fun _ _ => rfl | exact rowEq0 _ _)
  simp only [bif_t, bif_f, decide_eq_true_eq, decide_eq_false_iff_not, Bool.not_eq_true', Bool.not_eq_false', Bool.and_eq_true, Bool.or_eq_true, Bool.and_eq_false_iff, Bool.or_eq_false_iff, beq_iff_eq, bne_iff_ne, beq_eq_false_iff_ne, bne_eq_false_iff_eq, reduceCtorEq, false_and, and_false, true_and, and_true, or_false, false_or, or_true, true_or, not_true_eq_false, not_false_eq_true, Int.toNat_zero] at hc
  conv => whnf
  refine ⟨?_, ?_⟩
  · (try conv => whnf)
    (repeat' (first | exact True.intro | exact fun _ h => h | refine inR64_of ?_ ?_ | apply And.intro | refine maxLen_ge ?_)) <;> (first | omega | (dsimp only; omega) | (dsimp only [List.length_cons, List.length_nil]; omega) | (intro hg; rw [hg]; rfl) | (intro hg hh; rw [hg, hh]; rfl) | (intro hg; simp [-List.getD_eq_getElem?_getD, -Int.default_eq_zero] at hg; first | omega | (refine inR64_of ?_ ?_ <;> omega) | (constructor <;> omega)) | (simp [-List.getD_eq_getElem?_getD, -Int.default_eq_zero]; done))
  refine LSem.loop (n := 47) mix (α := Nat) (fun k => (i : Int) + 1 - c.s ≤ k ∧ k ≤ i + 1 ∧ ∀ q : Nat, (i : Int) + 1 - c.s ≤ q → q < k → offP l i (l.getD q default) = false)
    (fun k => [(1, .sl τ 4 l.length (fl eRd l)), (2, .int .i64 i), (7, .int .i64 k)])
    (fun k => []) (fun k => i + 1 - k) ((i : Int) + 1 - c.s).toNat ?_ ?_ ?_
  · exact ⟨by omega, by omega, fun q h1 h2 => by omega⟩
  · refine ⟨rfl, rfl, ?_, ?_⟩
    all_goals repeat' (first | exact True.intro | refine leF_cons rfl ?_ ?_ | refine leS_cons rfl ?_ ?_ | (show PLe _ _ _ _; conv => whnf) | (show SLe _ _ _ _; conv => whnf) | (show PLeL _ _ _ _; conv => whnf) | apply And.intro | rfl | exact Nat.le_refl _ | exact fun _ _ => rfl | exact rowEq0 _ _)
    all_goals omega
  · intro k hk
    obtain ⟨hk1, hk2, hk3⟩ := hk
    have hjk : ((k : Int)).toNat = k := by omega
    conv => whnf
    refine ⟨trivial, fun hc2 => ?_, fun hc2 => ?_⟩
    · replace hc2 := of_decide_eq_true hc2
      have hlt : k < l.length := by omega
      have hoff : offP l i (l.getD k default) = (bif (l.getD k default).f == 2 then true else (l.getD k default).v != (l.getD i default).v) := by
        unfold offP; rw [← bif_or]
        by_cases h : (l.getD k default).f = 2 <;> by_cases h2 : (l.getD k default).v = (l.getD i default).v <;> simp [h, h2, -List.getD_eq_getElem?_getD]
      conv => whnf
      refine ⟨rfl, ?_⟩
      conv => whnf
      refine ⟨?_, fun hc3 => ?_, fun hc3 => ?_⟩
      · (try conv => whnf)
        (repeat' (first | exact True.intro | exact fun _ h => h | refine inR64_of ?_ ?_ | apply And.intro | refine maxLen_ge ?_)) <;> (first | omega | (dsimp only; omega) | (dsimp only [List.length_cons, List.length_nil]; omega) | (intro hg; rw [hg]; rfl) | (intro hg hh; rw [hg, hh]; rfl) | (intro hg; simp [-List.getD_eq_getElem?_getD, -Int.default_eq_zero] at hg; first | omega | (refine inR64_of ?_ ?_ <;> omega) | (constructor <;> omega)) | (simp [-List.getD_eq_getElem?_getD, -Int.default_eq_zero]; done))
      · rw [hj, hjk, ← hoff] at hc3
        rw [show t4 c l i = false by cases h : t4 c l i with | false => rfl | true => exact absurd ((ht.1 h).2 k hk1 (by omega)) (by rw [hc3]; decide)]
        conv => whnf
        refine ⟨?_, [], ?_⟩
        · (try conv => whnf)
          (repeat' (first | exact True.intro | exact fun _ h => h | refine inR64_of ?_ ?_ | apply And.intro | refine maxLen_ge ?_)) <;> (first | omega | (dsimp only; omega) | (dsimp only [List.length_cons, List.length_nil]; omega) | (intro hg; rw [hg]; rfl) | (intro hg hh; rw [hg, hh]; rfl) | (intro hg; simp [-List.getD_eq_getElem?_getD, -Int.default_eq_zero] at hg; first | omega | (refine inR64_of ?_ ?_ <;> omega) | (constructor <;> omega)) | (simp [-List.getD_eq_getElem?_getD, -Int.default_eq_zero]; done))
        conv => whnf
        refine ⟨rfl, ?_, trivial, trivial⟩
        all_goals repeat' (first | exact True.intro | refine leF_cons rfl ?_ ?_ | refine leS_cons rfl ?_ ?_ | (show PLe _ _ _ _; conv => whnf) | (show SLe _ _ _ _; conv => whnf) | (show PLeL _ _ _ _; conv => whnf) | apply And.intro | rfl | exact Nat.le_refl _ | exact fun _ _ => rfl | exact rowEq0 _ _)
      · rw [hj, hjk, ← hoff] at hc3
        conv => whnf
        refine ⟨?_, k + 1, ⟨by omega, by omega, fun q h1 h2 => ?_⟩, ?_, rfl, rfl, ?_, ?_⟩
        · (try conv => whnf)
          (repeat' (first | exact True.intro | exact fun _ h => h | refine inR64_of ?_ ?_ | apply And.intro | refine maxLen_ge ?_)) <;> (first | omega | (dsimp only; omega) | (dsimp only [List.length_cons, List.length_nil]; omega) | (intro hg; rw [hg]; rfl) | (intro hg hh; rw [hg, hh]; rfl) | (intro hg; simp [-List.getD_eq_getElem?_getD, -Int.default_eq_zero] at hg; first | omega | (refine inR64_of ?_ ?_ <;> omega) | (constructor <;> omega)) | (simp [-List.getD_eq_getElem?_getD, -Int.default_eq_zero]; done))
        · by_cases e : q = k
          · rw [e]; exact hc3
          · exact hk3 q h1 (by omega)
        · omega
        all_goals repeat' (first | exact True.intro | refine leF_cons rfl ?_ ?_ | refine leS_cons rfl ?_ ?_ | (show PLe _ _ _ _; conv => whnf) | (show SLe _ _ _ _; conv => whnf) | (show PLeL _ _ _ _; conv => whnf) | apply And.intro | rfl | exact Nat.le_refl _ | exact fun _ _ => rfl | exact rowEq0 _ _)
        all_goals omega
    · replace hc2 := of_decide_eq_false hc2
      rw [show t4 c l i = true from ht.2 ⟨by omega, fun q h1 h2 => hk3 q h1 (by omega)⟩]
      conv => whnf
      refine ⟨?_, [], ?_⟩
      · (try conv => whnf)
        (repeat' (first | exact True.intro | exact fun _ h => h | refine inR64_of ?_ ?_ | apply And.intro | refine maxLen_ge ?_)) <;> (first | omega | (dsimp only; omega) | (dsimp only [List.length_cons, List.length_nil]; omega) | (intro hg; rw [hg]; rfl) | (intro hg hh; rw [hg, hh]; rfl) | (intro hg; simp [-List.getD_eq_getElem?_getD, -Int.default_eq_zero] at hg; first | omega | (refine inR64_of ?_ ?_ <;> omega) | (constructor <;> omega)) | (simp [-List.getD_eq_getElem?_getD, -Int.default_eq_zero]; done))
      conv => whnf
      refine ⟨rfl, ?_, trivial, trivial⟩
      all_goals repeat' (first | exact True.intro | refine leF_cons rfl ?_ ?_ | refine leS_cons rfl ?_ ?_ | (show PLe _ _ _ _; conv => whnf) | (show SLe _ _ _ _; conv => whnf) | (show PLeL _ _ _ _; conv => whnf) | apply And.intro | rfl | exact Nat.le_refl _ | exact fun _ _ => rfl | exact rowEq0 _ _)
end Pv
end Go.Proofs.Ytogoplhikmmggaa
