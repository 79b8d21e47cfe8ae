/- LAW 02, THE WALKS, 6: the sum of two curves. -/
import Derived.Test.YtedoglkonfckkaaC10
import Derived.Test.YtedoglkonfckkaaC8
set_option linter.unusedSimpArgs false
set_option linter.unusedVariables false
namespace Go.Proofs.Ytedoglkonfckkaa
namespace Pv
def c17L1 : C := (.seq (.reg [⟨(some 19), 304, none, .bi false .lss (.t 18) (.c (.int .i64 2))⟩])
  (.seq (.cond (.t 19) .skip (.exit 0))
  (.seq (.block 1 (.seq (.reg [⟨(some 20), 320, none, .ixa 2 1 false (.t 17) (.t 18)⟩,
    ⟨(some 7), 112, none, .mv (.t 20)⟩])
  (.seq (.reg [⟨(some 21), 336, none, .mv (.t 7)⟩,
    ⟨(some 22), 352, none, .call (.c (.fn (.func 20) [] [])) [(.t 21)]⟩,
    ⟨(some 8), 128, none, .mv (.t 22)⟩])
  (.seq (.reg [⟨(some 23), 368, none, .mv (.t 8)⟩,
    ⟨(some 24), 384, none, .bi false .neq (.t 23) (.c (.int .i64 0))⟩])
  (.cond (.t 24) (.seq (.reg [⟨(some 25), 400, none, .mv (.t 8)⟩,
    ⟨(some 4), 64, none, .mv (.c (.nil 2))⟩,
    ⟨(some 5), 80, none, .mv (.t 25)⟩])
  .ret) .skip)))))
  (.reg [⟨(some 26), 416, none, .bi false .add (.t 18) (.c (.int .i64 1))⟩,
    ⟨(some 18), 288, none, .mv (.t 26)⟩]))))
def c17L2 : C := (.seq (.reg [⟨(some 33), 528, none, .bi false .lss (.t 32) (.t 31)⟩])
  (.seq (.cond (.t 33) .skip (.exit 2))
  (.seq (.block 3 (.seq (.reg [⟨(some 34), 544, none, .ia 1 (.t 30) (.t 32)⟩,
    ⟨(some 35), 560, none, .ld 1 false (.t 34)⟩,
    ⟨(some 12), 192, none, .mv (.t 35)⟩])
  (.seq (.reg [⟨(some 36), 576, none, .mv (.t 12)⟩,
    ⟨(some 37), 592, none, .mv (.t 0)⟩,
    ⟨(some 38), 608, none, .mv (.t 12)⟩,
    ⟨(some 39), 624, none, .call (.c (.fn (.func 21) [] [])) [(.t 37), (.t 38)]⟩,
    ⟨(some 40), 640, none, .mv (.t 1)⟩,
    ⟨(some 41), 656, none, .mv (.t 12)⟩,
    ⟨(some 42), 672, none, .call (.c (.fn (.func 21) [] [])) [(.t 40), (.t 41)]⟩,
    ⟨(some 43), 688, none, .bi false .add (.t 39) (.t 42)⟩,
    ⟨(some 44), 704, none, .bd [(.int .i64 0), (.int .i64 0)] [(0, 1, (.t 36)), (1, 1, (.t 43))]⟩,
    ⟨(some 13), 208, none, .al [(.int .i64 0), (.int .i64 0)]⟩,
    ⟨none, 0, none, .st 2 (.t 13) (.t 44)⟩])
  (.seq (.reg [⟨(some 45), 720, none, .ld 2 true (.t 13)⟩,
    ⟨(some 46), 736, none, .ld 2 true (.t 10)⟩,
    ⟨(some 47), 752, none, .eqa true [0, 0] (.t 45) (.t 46)⟩])
  (.cond (.t 47) (.drw [⟨(some 48), 768, none, .mv (.t 9)⟩,
    ⟨(some 49), 784, none, .iaa 2 1 (.t 13) (.c (.int .i64 0))⟩,
    ⟨(some 50), 800, none, .ld 1 false (.t 49)⟩,
    ⟨(some 51), 816, none, .iaa 2 1 (.t 13) (.c (.int .i64 1))⟩,
    ⟨(some 52), 832, none, .ld 1 false (.t 51)⟩,
    ⟨(some 53), 848, none, .bd [(.int .i64 0), (.int .i64 0)] [(0, 1, (.t 50)), (1, 1, (.t 52))]⟩,
    ⟨(some 54), 864, none, .bs 35 2 [(.t 53)]⟩,
    ⟨(some 55), 880, none, .app 35 2 16 (.t 48) (.t 54)⟩,
    ⟨(some 56), 896, none, .ld 2 true (.t 13)⟩,
    ⟨(some 9), 144, none, .mv (.t 55)⟩,
    ⟨none, 0, none, .st 2 (.t 10) (.t 56)⟩]
    [(0, 1, 48), (0, 2, 48), (0, 3, 48), (0, 4, 48), (0, 5, 48), (0, 6, 48), (0, 8, 48), (1, 3, 49), (1, 4, 49), (1, 8, 49), (2, 3, 50), (2, 4, 50), (2, 8, 50), (3, 8, 51), (4, 8, 52), (5, 8, 53), (6, 8, 54), (7, 8, 55), (8, 9, 56)]) .skip)))))
  (.reg [⟨(some 57), 912, none, .bi false .add (.t 32) (.c (.int .i64 1))⟩,
    ⟨(some 32), 512, none, .mv (.t 57)⟩]))))
def c17 : C := (.seq (.reg [⟨(some 4), 64, none, .mv (.c (.nil 2))⟩,
    ⟨(some 5), 80, none, .mv (.c (.int .i64 0))⟩])
  (.seq (.seq (.reg [⟨(some 15), 240, none, .mv (.t 0)⟩,
    ⟨(some 16), 256, none, .mv (.t 1)⟩,
    ⟨(some 17), 272, none, .bd [(.nil 2), (.nil 2)] [(0, 1, (.t 15)), (1, 1, (.t 16))]⟩,
    ⟨(some 18), 288, none, .mv (.c (.int .i64 0))⟩])
  (.block 0 (.loop c17L1)))
  (.seq (.reg [⟨(some 9), 144, none, .mv (.c (.nil 2))⟩])
  (.seq (.reg [⟨(some 27), 432, none, .bd [(.int .i64 0), (.int .i64 0)] [(0, 1, (.c (.int .i64 (-1)))), (1, 1, (.c (.int .i64 (-1))))]⟩,
    ⟨(some 10), 160, none, .al [(.int .i64 0), (.int .i64 0)]⟩,
    ⟨none, 0, none, .st 2 (.t 10) (.t 27)⟩])
  (.seq (.seq (.reg [⟨(some 28), 448, none, .mv (.t 0)⟩,
    ⟨(some 29), 464, none, .mv (.t 1)⟩,
    ⟨(some 30), 480, none, .call (.c (.fn (.func 22) [] [])) [(.t 28), (.t 29)]⟩,
    ⟨(some 31), 496, none, .len (.t 30)⟩,
    ⟨(some 32), 512, none, .mv (.c (.int .i64 0))⟩])
  (.block 2 (.loop c17L2)))
  (.seq (.seq (.reg [⟨(some 58), 928, none, .mv (.t 9)⟩,
    ⟨(some 59), 944, none, .call (.c (.fn (.func 20) [] [])) [(.t 58)]⟩,
    ⟨(some 14), 224, none, .mv (.t 59)⟩])
  (.seq (.reg [⟨(some 60), 960, none, .mv (.t 14)⟩,
    ⟨(some 61), 976, none, .bi false .neq (.t 60) (.c (.int .i64 0))⟩])
  (.cond (.t 61) (.seq (.reg [⟨(some 62), 992, none, .mv (.t 14)⟩,
    ⟨(some 4), 64, none, .mv (.c (.nil 2))⟩,
    ⟨(some 5), 80, none, .mv (.t 62)⟩])
  .ret) .skip)))
  (.seq (.reg [⟨(some 63), 1008, none, .mv (.t 9)⟩,
    ⟨(some 4), 64, none, .mv (.t 63)⟩,
    ⟨(some 5), 80, none, .mv (.c (.int .i64 0))⟩])
  .ret)))))))
theorem fits17 : fits Try.prog false Try.f17 2 64 [(4, none), (5, none)] = some c17.er := by kernel_rfl

theorem map_take_succ {α β : Type} [Inhabited α] (f : α → β) {l : List α} {i : Nat} (h : i < l.length) : (l.take (i + 1)).map f = (l.take i).map f ++ [f (l.getD i default)] := by
  rw [List.take_add_one, List.getElem?_eq_getElem h, List.map_append, List.getD_eq_getElem?_getD, List.getElem?_eq_getElem h]; rfl

set_option maxRecDepth 100000 in
set_option maxHeartbeats 4000000 in
theorem call17 (τ τ' : Nat) (a b : List Pt) :
    PureCall Try.prog 17 [.sl τ 2 a.length (fl ePt a), .sl τ' 2 b.length (fl ePt b)] [] ⟨.tup [.sl 0 2 (addC a b).1.length (fl ePt (addC a b).1), .int .i64 (addC a b).2], [], []⟩ := by
  refine pure_call mix Try.func17 fits17 rfl ?_
  conv => whnf
  refine ⟨trivial, ?_⟩
  refine LSem.loop (n := 64) mix (α := Nat) (fun k => k ≤ 2 ∧ (0 < k → checkC a = 0) ∧ (1 < k → checkC b = 0))
    (fun k => [(0, .sl τ 2 a.length (fl ePt a)), (1, .sl τ' 2 b.length (fl ePt b)), (17, .agg [.sl τ 2 a.length (fl ePt a), .sl τ' 2 b.length (fl ePt b)]), (18, .int .i64 k)])
    (fun k => []) (fun k => 2 - k) 0 ?_ ?_ ?_
  · exact ⟨by omega, fun h => by omega, fun h => by omega⟩
  · refine ⟨rfl, rfl, ?_, ?_⟩
    all_goals repeat' (first | exact True.intro | refine leF_cons rfl ?_ ?_ | refine leS_cons rfl ?_ ?_ | (show PLe _ _ _ _; conv => whnf) | (show SLe _ _ _ _; conv => whnf) | (show PLeL _ _ _ _; conv => whnf) | apply And.intro | rfl | exact Nat.le_refl _ | exact fun _ _ => rfl | exact rowEq0 _ _)
  · intro k hk
    obtain ⟨hk, hka, hkb⟩ := hk
    have h012 : k = 0 ∨ k = 1 ∨ k = 2 := by omega
    rcases h012 with rfl | rfl | rfl
    · conv => whnf
      refine ⟨trivial, fun _ => ?_, fun hc => absurd hc (by decide)⟩
      conv => whnf
      refine ⟨_, fun _ => call20 _ a, ?_⟩
      conv => whnf
      refine ⟨?_, fun hc => ?_, fun hc => ?_⟩
      · (try conv => whnf)
        (repeat' (first | exact True.intro | exact fun _ h => h | refine inR64_of ?_ ?_ | apply And.intro | refine maxLen_ge ?_)) <;> (first | omega | (dsimp only; omega) | (dsimp only [List.length_cons, List.length_nil]; omega) | (intro hg; rw [hg]; rfl) | (intro hg hh; rw [hg, hh]; rfl) | (intro hg; simp [-List.getD_eq_getElem?_getD, -Int.default_eq_zero] at hg; first | omega | (refine inR64_of ?_ ?_ <;> omega) | (constructor <;> omega)) | (simp [-List.getD_eq_getElem?_getD, -Int.default_eq_zero]; done))
      · simp only [bif_t, bif_f, decide_eq_true_eq, decide_eq_false_iff_not, Bool.not_eq_true', Bool.not_eq_false', Bool.and_eq_true, Bool.or_eq_true, Bool.and_eq_false_iff, Bool.or_eq_false_iff, beq_iff_eq, bne_iff_ne, beq_eq_false_iff_ne, bne_eq_false_iff_eq, reduceCtorEq, false_and, and_false, true_and, and_true, or_false, false_or, or_true, true_or, not_true_eq_false, not_false_eq_true, Int.toNat_zero] at hc
        rw [show addC a b = ([], checkC a) by unfold addC; rw [if_pos hc]]
        conv => whnf
        refine ⟨?_, [], ?_⟩
        · (try conv => whnf)
          (repeat' (first | exact True.intro | exact fun _ h => h | refine inR64_of ?_ ?_ | apply And.intro | refine maxLen_ge ?_)) <;> (first | omega | (dsimp only; omega) | (dsimp only [List.length_cons, List.length_nil]; omega) | (intro hg; rw [hg]; rfl) | (intro hg hh; rw [hg, hh]; rfl) | (intro hg; simp [-List.getD_eq_getElem?_getD, -Int.default_eq_zero] at hg; first | omega | (refine inR64_of ?_ ?_ <;> omega) | (constructor <;> omega)) | (simp [-List.getD_eq_getElem?_getD, -Int.default_eq_zero]; done))
        conv => whnf
        refine ⟨rfl, ?_, trivial, trivial⟩
        all_goals repeat' (first | exact True.intro | refine leF_cons rfl ?_ ?_ | refine leS_cons rfl ?_ ?_ | (show PLe _ _ _ _; conv => whnf) | (show SLe _ _ _ _; conv => whnf) | (show PLeL _ _ _ _; conv => whnf) | apply And.intro | rfl | exact Nat.le_refl _ | exact fun _ _ => rfl | exact rowEq0 _ _)
      · simp only [bif_t, bif_f, decide_eq_true_eq, decide_eq_false_iff_not, Bool.not_eq_true', Bool.not_eq_false', Bool.and_eq_true, Bool.or_eq_true, Bool.and_eq_false_iff, Bool.or_eq_false_iff, beq_iff_eq, bne_iff_ne, beq_eq_false_iff_ne, bne_eq_false_iff_eq, reduceCtorEq, false_and, and_false, true_and, and_true, or_false, false_or, or_true, true_or, not_true_eq_false, not_false_eq_true, Int.toNat_zero] at hc
        conv => whnf
        refine ⟨?_, 1, ⟨by omega, fun _ => hc, fun h => by omega⟩, by omega, rfl, rfl, ?_, ?_⟩
        · (try conv => whnf)
          (repeat' (first | exact True.intro | exact fun _ h => h | refine inR64_of ?_ ?_ | apply And.intro | refine maxLen_ge ?_)) <;> (first | omega | (dsimp only; omega) | (dsimp only [List.length_cons, List.length_nil]; omega) | (intro hg; rw [hg]; rfl) | (intro hg hh; rw [hg, hh]; rfl) | (intro hg; simp [-List.getD_eq_getElem?_getD, -Int.default_eq_zero] at hg; first | omega | (refine inR64_of ?_ ?_ <;> omega) | (constructor <;> omega)) | (simp [-List.getD_eq_getElem?_getD, -Int.default_eq_zero]; done))
        all_goals repeat' (first | exact True.intro | refine leF_cons rfl ?_ ?_ | refine leS_cons rfl ?_ ?_ | (show PLe _ _ _ _; conv => whnf) | (show SLe _ _ _ _; conv => whnf) | (show PLeL _ _ _ _; conv => whnf) | apply And.intro | rfl | exact Nat.le_refl _ | exact fun _ _ => rfl | exact rowEq0 _ _)
    · have ha := hka (by omega)
      conv => whnf
      refine ⟨trivial, fun _ => ?_, fun hc => absurd hc (by decide)⟩
      conv => whnf
      refine ⟨_, fun _ => call20 _ b, ?_⟩
      conv => whnf
      refine ⟨?_, fun hc => ?_, fun hc => ?_⟩
      · (try conv => whnf)
        (repeat' (first | exact True.intro | exact fun _ h => h | refine inR64_of ?_ ?_ | apply And.intro | refine maxLen_ge ?_)) <;> (first | omega | (dsimp only; omega) | (dsimp only [List.length_cons, List.length_nil]; omega) | (intro hg; rw [hg]; rfl) | (intro hg hh; rw [hg, hh]; rfl) | (intro hg; simp [-List.getD_eq_getElem?_getD, -Int.default_eq_zero] at hg; first | omega | (refine inR64_of ?_ ?_ <;> omega) | (constructor <;> omega)) | (simp [-List.getD_eq_getElem?_getD, -Int.default_eq_zero]; done))
      · simp only [bif_t, bif_f, decide_eq_true_eq, decide_eq_false_iff_not, Bool.not_eq_true', Bool.not_eq_false', Bool.and_eq_true, Bool.or_eq_true, Bool.and_eq_false_iff, Bool.or_eq_false_iff, beq_iff_eq, bne_iff_ne, beq_eq_false_iff_ne, bne_eq_false_iff_eq, reduceCtorEq, false_and, and_false, true_and, and_true, or_false, false_or, or_true, true_or, not_true_eq_false, not_false_eq_true, Int.toNat_zero] at hc
        rw [show addC a b = ([], checkC b) by unfold addC; rw [if_neg (by rw [ha]; simp), if_pos hc]]
        conv => whnf
        refine ⟨?_, [], ?_⟩
        · (try conv => whnf)
          (repeat' (first | exact True.intro | exact fun _ h => h | refine inR64_of ?_ ?_ | apply And.intro | refine maxLen_ge ?_)) <;> (first | omega | (dsimp only; omega) | (dsimp only [List.length_cons, List.length_nil]; omega) | (intro hg; rw [hg]; rfl) | (intro hg hh; rw [hg, hh]; rfl) | (intro hg; simp [-List.getD_eq_getElem?_getD, -Int.default_eq_zero] at hg; first | omega | (refine inR64_of ?_ ?_ <;> omega) | (constructor <;> omega)) | (simp [-List.getD_eq_getElem?_getD, -Int.default_eq_zero]; done))
        conv => whnf
        refine ⟨rfl, ?_, trivial, trivial⟩
        all_goals repeat' (first | exact True.intro | refine leF_cons rfl ?_ ?_ | refine leS_cons rfl ?_ ?_ | (show PLe _ _ _ _; conv => whnf) | (show SLe _ _ _ _; conv => whnf) | (show PLeL _ _ _ _; conv => whnf) | apply And.intro | rfl | exact Nat.le_refl _ | exact fun _ _ => rfl | exact rowEq0 _ _)
      · simp only [bif_t, bif_f, decide_eq_true_eq, decide_eq_false_iff_not, Bool.not_eq_true', Bool.not_eq_false', Bool.and_eq_true, Bool.or_eq_true, Bool.and_eq_false_iff, Bool.or_eq_false_iff, beq_iff_eq, bne_iff_ne, beq_eq_false_iff_ne, bne_eq_false_iff_eq, reduceCtorEq, false_and, and_false, true_and, and_true, or_false, false_or, or_true, true_or, not_true_eq_false, not_false_eq_true, Int.toNat_zero] at hc
        conv => whnf
        refine ⟨?_, 2, ⟨by omega, fun _ => ha, fun _ => hc⟩, by omega, rfl, rfl, ?_, ?_⟩
        · (try conv => whnf)
          (repeat' (first | exact True.intro | exact fun _ h => h | refine inR64_of ?_ ?_ | apply And.intro | refine maxLen_ge ?_)) <;> (first | omega | (dsimp only; omega) | (dsimp only [List.length_cons, List.length_nil]; omega) | (intro hg; rw [hg]; rfl) | (intro hg hh; rw [hg, hh]; rfl) | (intro hg; simp [-List.getD_eq_getElem?_getD, -Int.default_eq_zero] at hg; first | omega | (refine inR64_of ?_ ?_ <;> omega) | (constructor <;> omega)) | (simp [-List.getD_eq_getElem?_getD, -Int.default_eq_zero]; done))
        all_goals repeat' (first | exact True.intro | refine leF_cons rfl ?_ ?_ | refine leS_cons rfl ?_ ?_ | (show PLe _ _ _ _; conv => whnf) | (show SLe _ _ _ _; conv => whnf) | (show PLeL _ _ _ _; conv => whnf) | apply And.intro | rfl | exact Nat.le_refl _ | exact fun _ _ => rfl | exact rowEq0 _ _)
    · have ha := hka (by omega)
      have hb := hkb (by omega)
      have ga := (check_good a).1 ha
      have gb := (check_good b).1 hb
      have la := ga.le
      have lb := gb.le
      conv => whnf
      refine ⟨trivial, fun hc => absurd hc (by decide), fun _ => ?_⟩
      conv => whnf
      refine ⟨_, fun _ => call22 _ _ a b ⟨ga.ne, by omega⟩ ⟨gb.ne, by omega⟩, ?_⟩
      have hinc := places_inc a b
      have hpl := places_len a b
      have h0 : ∀ x ∈ placesC a b, 0 ≤ x ∧ x ≤ 1073741824 := fun x hx => by
        rcases (places_mem a b x).1 hx with h | h <;> obtain ⟨i, hi, rfl⟩ := (xsC_mem _ _).1 h
        · have := ga.rng i hi; omega
        · have := gb.rng i hi; omega
      have hadd : addC a b = if checkC (sumC a b) ≠ 0 then ([], checkC (sumC a b)) else (sumC a b, 0) := by unfold addC; rw [if_neg (by rw [ha]; simp), if_neg (by rw [hb]; simp)]
      rw [hadd]
      have hsum : sumC a b = (placesC a b).map fun x => ⟨x, valC a x + valC b x⟩ := rfl
      generalize sumC a b = S at hsum ⊢
      generalize placesC a b = L at hinc hpl h0 hsum ⊢
      conv => whnf
      refine ⟨⟨trivial, trivial⟩, ?_⟩
      refine LSem.adopt 9 1000000 35 2 2 rfl rfl ?_
      refine LSem.loop (n := 64) mix (α := Nat) (fun i => i ≤ L.length)
        (fun i => [(0, .sl τ 2 a.length (fl ePt a)), (1, .sl τ' 2 b.length (fl ePt b)), (9, .os 1000000), (10, .pt 160 0 0), (30, .sl 0 1 L.length (fl eInt L)), (31, .int .i64 L.length), (32, .int .i64 i)])
        (fun i => [(160, .box [.int .i64 (if i = 0 then -1 else L.getD (i - 1) default), .int .i64 (if i = 0 then -1 else valC a (L.getD (i - 1) default) + valC b (L.getD (i - 1) default))]), (1000000, .row 0 35 2 i (fl ePt ((L.take i).map fun x => ⟨x, valC a x + valC b x⟩)))]) (fun i => L.length - i) 0 ?_ ?_ ?_
      · exact Nat.zero_le _
      · refine ⟨rfl, rfl, ?_, ?_⟩
        all_goals repeat' (first | exact True.intro | refine leF_cons rfl ?_ ?_ | refine leS_cons rfl ?_ ?_ | (show PLe _ _ _ _; conv => whnf) | (show SLe _ _ _ _; conv => whnf) | (show PLeL _ _ _ _; conv => whnf) | apply And.intro | rfl | exact Nat.le_refl _ | exact fun _ _ => rfl | exact rowEq0 _ _)
      · intro i hi
        have hj : ((i : Int)).toNat = i := by omega
        conv => whnf
        refine ⟨trivial, fun hc => ?_, fun hc => ?_⟩
        · replace hc := of_decide_eq_true hc
          have hlt : i < L.length := by omega
          have hx := h0 _ (getD_mem hlt)
          have va := val_rng ga (L.getD i default)
          have vb := val_rng gb (L.getD i default)
          have hps := fl_push ePt ((L.take i).map fun x => ⟨x, valC a x + valC b x⟩) ⟨L.getD i default, valC a (L.getD i default) + valC b (L.getD i default)⟩
          rw [← map_take_succ (fun x => (⟨x, valC a x + valC b x⟩ : Pt)) hlt, List.length_map, List.length_take, Nat.min_eq_left (by omega)] at hps
          have hne : ¬ L.getD i default = (if i = 0 then -1 else L.getD (i - 1) default) := by
            split
            · omega
            · have := inc_getD hinc (i := i - 1) (j := i) (by omega) hlt; omega
          conv => whnf
          refine ⟨_, fun _ => call21 _ a (L.getD ((i : Int)).toNat default) ga, ?_⟩
          conv => whnf
          refine ⟨_, fun _ => call21 _ b (L.getD ((i : Int)).toNat default) gb, ?_⟩
          conv => whnf
          refine ⟨?_, fun hc2 => ?_, fun hc2 => ?_⟩
          · rw [hj]
            (try conv => whnf)
            (repeat' (first | exact True.intro | exact fun _ h => h | refine inR64_of ?_ ?_ | apply And.intro | refine maxLen_ge ?_)) <;> (first | omega | (dsimp only; omega) | (dsimp only [List.length_cons, List.length_nil]; omega) | (intro hg; rw [hg]; rfl) | (intro hg hh; rw [hg, hh]; rfl) | (intro hg; simp [-List.getD_eq_getElem?_getD, -Int.default_eq_zero] at hg; first | omega | (refine inR64_of ?_ ?_ <;> omega) | (constructor <;> omega)) | (simp [-List.getD_eq_getElem?_getD, -Int.default_eq_zero]; done))
          · conv => whnf
            refine ⟨rfl, ?_⟩
            conv => whnf
            refine ⟨?_, i + 1, (by omega : i + 1 ≤ L.length), ?_, rfl, rfl, ?_, ?_⟩
            · (try conv => whnf)
              (repeat' (first | exact True.intro | exact fun _ h => h | refine inR64_of ?_ ?_ | apply And.intro | refine maxLen_ge ?_)) <;> (first | omega | (dsimp only; omega) | (dsimp only [List.length_cons, List.length_nil]; omega) | (intro hg; rw [hg]; rfl) | (intro hg hh; rw [hg, hh]; rfl) | (intro hg; simp [-List.getD_eq_getElem?_getD, -Int.default_eq_zero] at hg; first | omega | (refine inR64_of ?_ ?_ <;> omega) | (constructor <;> omega)) | (simp [-List.getD_eq_getElem?_getD, -Int.default_eq_zero]; done))
            · omega
            all_goals repeat' (first | exact True.intro | refine leF_cons rfl ?_ ?_ | refine leS_cons rfl ?_ ?_ | (show PLe _ _ _ _; conv => whnf) | (show SLe _ _ _ _; conv => whnf) | (show PLeL _ _ _ _; conv => whnf) | apply And.intro | rfl | exact Nat.le_refl _ | exact fun _ _ => rfl | exact rowEq0 _ _)
            all_goals (try omega)
            rw [hj]; exact hps
          · exfalso
            rw [hj] at hc2
            simp only [if_true, Bool.not_eq_false', Bool.and_eq_true, beq_iff_eq] at hc2
            exact hne hc2.1
        · replace hc := of_decide_eq_false hc
          have : i = L.length := by omega
          subst this
          have hSl : S.length = L.length := by rw [hsum, List.length_map]
          rw [List.take_length, ← hsum, ← hSl]
          conv => whnf
          refine ⟨_, fun _ => call20 _ S, ?_⟩
          conv => whnf
          refine ⟨?_, fun hc2 => ?_, fun hc2 => ?_⟩
          · (try conv => whnf)
            (repeat' (first | exact True.intro | exact fun _ h => h | refine inR64_of ?_ ?_ | apply And.intro | refine maxLen_ge ?_)) <;> (first | omega | (dsimp only; omega) | (dsimp only [List.length_cons, List.length_nil]; omega) | (intro hg; rw [hg]; rfl) | (intro hg hh; rw [hg, hh]; rfl) | (intro hg; simp [-List.getD_eq_getElem?_getD, -Int.default_eq_zero] at hg; first | omega | (refine inR64_of ?_ ?_ <;> omega) | (constructor <;> omega)) | (simp [-List.getD_eq_getElem?_getD, -Int.default_eq_zero]; done))
          · simp only [bif_t, bif_f, decide_eq_true_eq, decide_eq_false_iff_not, Bool.not_eq_true', Bool.not_eq_false', Bool.and_eq_true, Bool.or_eq_true, Bool.and_eq_false_iff, Bool.or_eq_false_iff, beq_iff_eq, bne_iff_ne, beq_eq_false_iff_ne, bne_eq_false_iff_eq, reduceCtorEq, false_and, and_false, true_and, and_true, or_false, false_or, or_true, true_or, not_true_eq_false, not_false_eq_true, Int.toNat_zero] at hc2
            rw [if_pos hc2]
            conv => whnf
            refine ⟨?_, [], ?_⟩
            · (try conv => whnf)
              (repeat' (first | exact True.intro | exact fun _ h => h | refine inR64_of ?_ ?_ | apply And.intro | refine maxLen_ge ?_)) <;> (first | omega | (dsimp only; omega) | (dsimp only [List.length_cons, List.length_nil]; omega) | (intro hg; rw [hg]; rfl) | (intro hg hh; rw [hg, hh]; rfl) | (intro hg; simp [-List.getD_eq_getElem?_getD, -Int.default_eq_zero] at hg; first | omega | (refine inR64_of ?_ ?_ <;> omega) | (constructor <;> omega)) | (simp [-List.getD_eq_getElem?_getD, -Int.default_eq_zero]; done))
            conv => whnf
            refine ⟨rfl, ?_, trivial, trivial⟩
            all_goals repeat' (first | exact True.intro | refine leF_cons rfl ?_ ?_ | refine leS_cons rfl ?_ ?_ | (show PLe _ _ _ _; conv => whnf) | (show SLe _ _ _ _; conv => whnf) | (show PLeL _ _ _ _; conv => whnf) | apply And.intro | rfl | exact Nat.le_refl _ | exact fun _ _ => rfl | exact rowEq0 _ _)
          · simp only [bif_t, bif_f, decide_eq_true_eq, decide_eq_false_iff_not, Bool.not_eq_true', Bool.not_eq_false', Bool.and_eq_true, Bool.or_eq_true, Bool.and_eq_false_iff, Bool.or_eq_false_iff, beq_iff_eq, bne_iff_ne, beq_eq_false_iff_ne, bne_eq_false_iff_eq, reduceCtorEq, false_and, and_false, true_and, and_true, or_false, false_or, or_true, true_or, not_true_eq_false, not_false_eq_true, Int.toNat_zero] at hc2
            rw [if_neg (by rw [hc2]; simp)]
            conv => whnf
            refine ⟨?_, [], ?_⟩
            · (try conv => whnf)
              (repeat' (first | exact True.intro | exact fun _ h => h | refine inR64_of ?_ ?_ | apply And.intro | refine maxLen_ge ?_)) <;> (first | omega | (dsimp only; omega) | (dsimp only [List.length_cons, List.length_nil]; omega) | (intro hg; rw [hg]; rfl) | (intro hg hh; rw [hg, hh]; rfl) | (intro hg; simp [-List.getD_eq_getElem?_getD, -Int.default_eq_zero] at hg; first | omega | (refine inR64_of ?_ ?_ <;> omega) | (constructor <;> omega)) | (simp [-List.getD_eq_getElem?_getD, -Int.default_eq_zero]; done))
            conv => whnf
            refine ⟨rfl, ?_, trivial, trivial⟩
            all_goals repeat' (first | exact True.intro | refine leF_cons rfl ?_ ?_ | refine leS_cons rfl ?_ ?_ | (show PLe _ _ _ _; conv => whnf) | (show SLe _ _ _ _; conv => whnf) | (show PLeL _ _ _ _; conv => whnf) | apply And.intro | rfl | exact Nat.le_refl _ | exact fun _ _ => rfl | exact rowEq0 _ _)
end Pv
end Go.Proofs.Ytedoglkonfckkaa
