/- LAW 08, THE WALKS: the document's vote. -/
import Derived.Test.YtogoplhikmmggaaQ4
set_option linter.unusedSimpArgs false
set_option linter.unusedVariables false
namespace Go.Proofs.Ytogoplhikmmggaa
namespace Pv
def c19L2 : C := (.seq (.seq (.reg [⟨(some 29), 464, none, .mv (.t 9)⟩,
    ⟨(some 30), 480, none, .bi false .gtr (.t 29) (.c (.int .i64 0))⟩,
    ⟨(some 31), 496, none, .mv (.t 30)⟩,
    ⟨(some 32), 512, (some (31, true)), .mv (.t 6)⟩,
    ⟨(some 33), 528, (some (31, true)), .mv (.t 9)⟩,
    ⟨(some 34), 544, (some (31, true)), .bi false .sub (.t 33) (.c (.int .i64 1))⟩,
    ⟨(some 35), 560, (some (31, true)), .ia 1 (.t 32) (.t 34)⟩,
    ⟨(some 36), 576, (some (31, true)), .ld 1 false (.t 35)⟩,
    ⟨(some 37), 592, (some (31, true)), .mv (.t 8)⟩,
    ⟨(some 38), 608, (some (31, true)), .bi false .gtr (.t 36) (.t 37)⟩,
    ⟨(some 39), 624, none, .pick (.t 31) (.t 38) (.c (.bool false))⟩])
  (.cond (.t 39) .skip (.exit 2)))
  (.block 3 (.reg [⟨(some 40), 640, none, .mv (.t 9)⟩,
    ⟨(some 41), 656, none, .bi false .sub (.t 40) (.c (.int .i64 1))⟩,
    ⟨(some 9), 144, none, .mv (.t 41)⟩])))
def c19L1 : C := (.seq (.reg [⟨(some 18), 288, none, .bi false .lss (.t 17) (.t 16)⟩])
  (.seq (.cond (.t 18) .skip (.exit 0))
  (.seq (.block 1 (.seq (.reg [⟨(some 19), 304, none, .mv (.t 17)⟩,
    ⟨(some 20), 320, none, .ia 1 (.t 15) (.t 17)⟩,
    ⟨(some 21), 336, none, .ld 1 false (.t 20)⟩,
    ⟨(some 7), 112, none, .mv (.t 19)⟩,
    ⟨(some 8), 128, none, .mv (.t 21)⟩])
  (.seq (.seq (.reg [⟨(some 22), 352, none, .mv (.t 1)⟩,
    ⟨(some 23), 368, none, .mv (.t 7)⟩,
    ⟨(some 24), 384, none, .ia 1 (.t 22) (.t 23)⟩,
    ⟨(some 25), 400, none, .ld 1 false (.t 24)⟩,
    ⟨(some 26), 416, none, .un false .not (.t 25)⟩])
  (.cond (.t 26) (.exit 1) .skip))
  (.seq (.reg [⟨(some 27), 432, none, .mv (.t 6)⟩,
    ⟨(some 28), 448, none, .len (.t 27)⟩,
    ⟨(some 9), 144, none, .mv (.t 28)⟩])
  (.seq (.block 2 (.loop c19L2))
  (.drw [⟨(some 42), 672, none, .mv (.t 6)⟩,
    ⟨(some 43), 688, none, .mv (.t 9)⟩,
    ⟨(some 44), 704, none, .slc 1 (.t 42) none (some (.t 43))⟩,
    ⟨(some 45), 720, none, .mv (.t 8)⟩,
    ⟨(some 46), 736, none, .bs 3 1 [(.t 45)]⟩,
    ⟨(some 47), 752, none, .mv (.t 6)⟩,
    ⟨(some 48), 768, none, .mv (.t 9)⟩,
    ⟨(some 49), 784, none, .slc 1 (.t 47) (some (.t 48)) none⟩,
    ⟨(some 50), 800, none, .app 3 1 8 (.t 46) (.t 49)⟩,
    ⟨(some 51), 816, none, .app 3 1 8 (.t 44) (.t 50)⟩,
    ⟨(some 6), 96, none, .mv (.t 51)⟩]
    [(0, 1, 42), (0, 3, 42), (0, 4, 42), (0, 5, 42), (0, 6, 42), (0, 7, 42), (0, 8, 42), (1, 3, 43), (1, 4, 43), (1, 5, 43), (1, 6, 43), (1, 7, 43), (1, 8, 43), (2, 3, 44), (2, 4, 44), (2, 5, 44), (2, 6, 44), (2, 7, 44), (2, 8, 44), (3, 5, 45), (3, 6, 45), (3, 7, 45), (4, 5, 46), (4, 6, 46), (4, 7, 46), (5, 6, 47)]))))))
  (.reg [⟨(some 52), 832, none, .bi false .add (.t 17) (.c (.int .i64 1))⟩,
    ⟨(some 17), 272, none, .mv (.t 52)⟩]))))
def c19 : C := (.seq (.reg [⟨(some 4), 64, none, .mv (.c (.int .i64 0))⟩,
    ⟨(some 5), 80, none, .mv (.c (.bool false))⟩])
  (.seq (.seq (.reg [⟨(some 10), 160, none, .mv (.t 0)⟩,
    ⟨(some 11), 176, none, .len (.t 10)⟩,
    ⟨(some 12), 192, none, .mv (.t 1)⟩,
    ⟨(some 13), 208, none, .len (.t 12)⟩,
    ⟨(some 14), 224, none, .bi false .neq (.t 11) (.t 13)⟩])
  (.cond (.t 14) (.seq (.reg [⟨(some 4), 64, none, .mv (.c (.int .i64 0))⟩,
    ⟨(some 5), 80, none, .mv (.c (.bool false))⟩])
  .ret) .skip))
  (.seq (.reg [⟨(some 6), 96, none, .mv (.c (.nil 1))⟩])
  (.seq (.seq (.reg [⟨(some 15), 240, none, .mv (.t 0)⟩,
    ⟨(some 16), 256, none, .len (.t 15)⟩,
    ⟨(some 17), 272, none, .mv (.c (.int .i64 0))⟩])
  (.block 0 (.loop c19L1)))
  (.seq (.seq (.reg [⟨(some 53), 848, none, .mv (.t 6)⟩,
    ⟨(some 54), 864, none, .len (.t 53)⟩,
    ⟨(some 55), 880, none, .bi false .eql (.t 54) (.c (.int .i64 0))⟩])
  (.cond (.t 55) (.seq (.reg [⟨(some 4), 64, none, .mv (.c (.int .i64 0))⟩,
    ⟨(some 5), 80, none, .mv (.c (.bool false))⟩])
  .ret) .skip))
  (.seq (.reg [⟨(some 56), 896, none, .mv (.t 6)⟩,
    ⟨(some 57), 912, none, .mv (.t 6)⟩,
    ⟨(some 58), 928, none, .len (.t 57)⟩,
    ⟨(some 59), 944, none, .bi false .sub (.t 58) (.c (.int .i64 1))⟩,
    ⟨(some 60), 960, none, .bi false .quo (.t 59) (.c (.int .i64 2))⟩,
    ⟨(some 61), 976, none, .ia 1 (.t 56) (.t 60)⟩,
    ⟨(some 62), 992, none, .ld 1 false (.t 61)⟩,
    ⟨(some 4), 64, none, .mv (.t 62)⟩,
    ⟨(some 5), 80, none, .mv (.c (.bool true))⟩])
  .ret))))))
theorem fits19 : fits Try.prog false Try.f19 2 63 [(4, none), (5, none)] = some c19.er := by kernel_rfl

theorem sorted_le {l : List Int} (h : l.Pairwise (· ≤ ·)) {i j : Nat} (hij : i ≤ j) (hj : j < l.length) : l.getD i default ≤ l.getD j default := by
  rcases Nat.lt_or_ge i j with h1 | h1
  · rw [List.getD_eq_getElem?_getD, List.getD_eq_getElem?_getD, List.getElem?_eq_getElem (by omega), List.getElem?_eq_getElem hj]
    exact List.pairwise_iff_getElem.1 h i j (by omega) hj h1
  · rw [show i = j by omega]; exact Int.le_refl _
theorem mem_getD {l : List Int} {x : Int} (h : x ∈ l) : ∃ i, i < l.length ∧ l.getD i default = x := by
  obtain ⟨i, hi, e⟩ := List.getElem_of_mem h
  exact ⟨i, hi, by rw [List.getD_eq_getElem?_getD, List.getElem?_eq_getElem hi, ← e]; rfl⟩
theorem ins_srt {M : List Int} {x : Int} {k : Nat} (hk : k ≤ (srt M).length) (h1 : 0 < k → (srt M).getD (k - 1) default ≤ x) (h2 : ∀ j, k ≤ j → j < (srt M).length → x < (srt M).getD j default) :
    (srt M).take k ++ x :: (srt M).drop k = srt (M ++ [x]) := by
  have hs := srt_sorted M
  have hp := srt_perm M
  refine sorted_ext _ _ ?_ (srt_sorted _) ?_
  · rw [List.pairwise_append]
    refine ⟨hs.sublist (List.take_sublist _ _), ?_, ?_⟩
    · rw [List.pairwise_cons]
      refine ⟨fun y hy => ?_, hs.sublist (List.drop_sublist _ _)⟩
      obtain ⟨i, hi, rfl⟩ := mem_getD hy
      rw [List.length_drop] at hi
      have := h2 (k + i) (by omega) (by omega)
      rw [List.getD_eq_getElem?_getD, List.getElem?_drop, ← List.getD_eq_getElem?_getD]; omega
    · intro a ha b hb
      obtain ⟨i, hi, rfl⟩ := mem_getD ha
      rw [List.length_take] at hi
      have ea : ((srt M).take k).getD i default = (srt M).getD i default := by
        rw [List.getD_eq_getElem?_getD, List.getElem?_take, if_pos (by omega), ← List.getD_eq_getElem?_getD]
      rw [ea]
      have hax : (srt M).getD i default ≤ x := Int.le_trans (sorted_le hs (show i ≤ k - 1 by omega) (by omega)) (h1 (by omega))
      rcases List.mem_cons.1 hb with rfl | hb
      · exact hax
      · obtain ⟨j, hj, rfl⟩ := mem_getD hb
        rw [List.length_drop] at hj
        have := h2 (k + j) (by omega) (by omega)
        have eb : ((srt M).drop k).getD j default = (srt M).getD (k + j) default := by rw [List.getD_eq_getElem?_getD, List.getElem?_drop, ← List.getD_eq_getElem?_getD]
        rw [eb]; omega
  · refine List.Perm.trans ?_ (srt_perm _).symm
    refine List.perm_middle.trans ?_
    rw [List.take_append_drop]
    exact (hp.cons x).trans (List.perm_append_singleton x M).symm
theorem ins_row {L : List Int} {x : Int} {k : Nat} (hk : k ≤ L.length) : RowEq (k + (1 + (L.length - k))) (appF k (fl eInt L) (appF 1 (fun i => [eInt x].getD i []) (fun i => fl eInt L (k + i)))) (fl eInt (L.take k ++ x :: L.drop k)) := fun i hi => by
  have hlt : (L.take k).length = k := by rw [List.length_take]; omega
  show (if i < k then _ else _) = eInt ((L.take k ++ x :: L.drop k).getD i default)
  rw [List.getD_eq_getElem?_getD]
  by_cases h : i < k
  · rw [if_pos h, List.getElem?_append_left (by omega), List.getElem?_take, if_pos h, ← List.getD_eq_getElem?_getD]; rfl
  · rw [if_neg h, List.getElem?_append_right (by omega), hlt]
    show (if i - k < 1 then _ else _) = _
    by_cases h2 : i = k
    · subst h2
      rw [Nat.sub_self]; rfl
    · obtain ⟨j, hj⟩ : ∃ j, i - k = j + 1 := ⟨i - k - 1, by omega⟩
      rw [hj, if_neg (by omega), List.getElem?_cons_succ, List.getElem?_drop, ← List.getD_eq_getElem?_getD]; rfl

set_option maxRecDepth 100000 in
set_option maxHeartbeats 8000000 in
theorem call19 (τ τ' : Nat) (v : List Int) (g : List Bool) (hl : v.length ≤ 1000000) : PureCall Try.prog 19 [.sl τ 1 v.length (fl eInt v), .sl τ' 1 g.length (fl eBool g)] [] ⟨.tup [.int .i64 (voteF v g).1, .bool (voteF v g).2], [], []⟩ := by
  refine pure_call mix Try.func19 fits19 rfl ?_
  conv => whnf
  refine ⟨trivial, fun hc => ?_, fun hc => ?_⟩
  · simp only [bif_t, bif_f, decide_eq_true_eq, decide_eq_false_iff_not, Bool.not_eq_true', Bool.not_eq_false', Bool.and_eq_true, Bool.or_eq_true, Bool.and_eq_false_iff, Bool.or_eq_false_iff, beq_iff_eq, bne_iff_ne, beq_eq_false_iff_ne, bne_eq_false_iff_eq, reduceCtorEq, false_and, and_false, true_and, and_true, or_false, false_or, or_true, true_or, not_true_eq_false, not_false_eq_true, Int.toNat_zero] at hc
    rw [show voteF v g = (0, false) by unfold voteF; rw [if_pos (by omega)]]
    conv => whnf
    refine ⟨?_, [], ?_⟩
    · (try conv => whnf)
      (repeat' (first | exact True.intro | exact fun _ h => h | refine inR64_of ?_ ?_ | apply And.intro | refine maxLen_ge ?_)) <;> (first | omega | (dsimp only; omega) | (dsimp only [List.length_cons, List.length_nil]; omega) | (intro hg; rw [hg]; rfl) | (intro hg hh; rw [hg, hh]; rfl) | (intro hg; simp [-List.getD_eq_getElem?_getD, -Int.default_eq_zero] at hg; first | omega | (refine inR64_of ?_ ?_ <;> omega) | (constructor <;> omega)) | (simp [-List.getD_eq_getElem?_getD, -Int.default_eq_zero]; done))
    conv => whnf
    refine ⟨rfl, ?_, trivial, trivial⟩
    all_goals repeat' (first | exact True.intro | refine leF_cons rfl ?_ ?_ | refine leS_cons rfl ?_ ?_ | (show PLe _ _ _ _; conv => whnf) | (show SLe _ _ _ _; conv => whnf) | (show PLeL _ _ _ _; conv => whnf) | apply And.intro | rfl | exact Nat.le_refl _ | exact fun _ _ => rfl | exact rowEq0 _ _)
  simp only [bif_t, bif_f, decide_eq_true_eq, decide_eq_false_iff_not, Bool.not_eq_true', Bool.not_eq_false', Bool.and_eq_true, Bool.or_eq_true, Bool.and_eq_false_iff, Bool.or_eq_false_iff, beq_iff_eq, bne_iff_ne, beq_eq_false_iff_ne, bne_eq_false_iff_eq, reduceCtorEq, false_and, and_false, true_and, and_true, or_false, false_or, or_true, true_or, not_true_eq_false, not_false_eq_true, Int.toNat_zero] at hc
  have hlen : v.length = g.length := by omega
  have hv : voteF v g = if (goodL v g v.length).length = 0 then (0, false) else ((srt (goodL v g v.length)).getD (((goodL v g v.length).length - 1) / 2) default, true) := by unfold voteF; rw [if_neg (by omega)]
  rw [hv]
  conv => whnf
  refine ⟨trivial, ?_⟩
  refine LSem.adopt 6 1000000 3 1 1 rfl rfl ?_
  refine LSem.loop (n := 63) mix (α := Nat) (fun i => i ≤ v.length)
    (fun i => [(0, .sl τ 1 v.length (fl eInt v)), (1, .sl τ' 1 g.length (fl eBool g)), (6, .os 1000000), (15, .sl τ 1 v.length (fl eInt v)), (16, .int .i64 v.length), (17, .int .i64 i)])
    (fun i => [(1000000, .row 0 3 1 (srt (goodL v g i)).length (fl eInt (srt (goodL v g i))))]) (fun i => v.length - i) 0 ?_ ?_ ?_
  · exact Nat.zero_le _
  · refine ⟨rfl, rfl, ?_, ?_⟩
    all_goals repeat' (first | exact True.intro | refine leF_cons rfl ?_ ?_ | refine leS_cons rfl ?_ ?_ | (show PLe _ _ _ _; conv => whnf) | (show SLe _ _ _ _; conv => whnf) | (show PLeL _ _ _ _; conv => whnf) | apply And.intro | rfl | exact Nat.le_refl _ | exact fun _ _ => rfl | exact rowEq0 _ _)
    all_goals (rw [srt_len]; rfl)
  · intro i hi
    have hj : ((i : Int)).toNat = i := by omega
    have hgl := goodL_len v g i
    have hsl := srt_len (goodL v g i)
    conv => whnf
    refine ⟨trivial, fun hc2 => ?_, fun hc2 => ?_⟩
    · replace hc2 := of_decide_eq_true hc2
      have hlt : i < v.length := by omega
      conv => whnf
      refine ⟨?_, fun hc3 => ?_, fun hc3 => ?_⟩
      · (try conv => whnf)
        (repeat' (first | exact True.intro | exact fun _ h => h | refine inR64_of ?_ ?_ | apply And.intro | refine maxLen_ge ?_)) <;> (first | omega | (dsimp only; omega) | (dsimp only [List.length_cons, List.length_nil]; omega) | (intro hg; rw [hg]; rfl) | (intro hg hh; rw [hg, hh]; rfl) | (intro hg; simp [-List.getD_eq_getElem?_getD, -Int.default_eq_zero] at hg; first | omega | (refine inR64_of ?_ ?_ <;> omega) | (constructor <;> omega)) | (simp [-List.getD_eq_getElem?_getD, -Int.default_eq_zero]; done))
      · rw [hj] at hc3
        have hst : goodL v g (i + 1) = goodL v g i := by rw [goodL, if_neg (by simpa using hc3)]
        conv => whnf
        refine ⟨?_, i + 1, (by omega : i + 1 ≤ v.length), ?_, rfl, rfl, ?_, ?_⟩
        · (try conv => whnf)
          (repeat' (first | exact True.intro | exact fun _ h => h | refine inR64_of ?_ ?_ | apply And.intro | refine maxLen_ge ?_)) <;> (first | omega | (dsimp only; omega) | (dsimp only [List.length_cons, List.length_nil]; omega) | (intro hg; rw [hg]; rfl) | (intro hg hh; rw [hg, hh]; rfl) | (intro hg; simp [-List.getD_eq_getElem?_getD, -Int.default_eq_zero] at hg; first | omega | (refine inR64_of ?_ ?_ <;> omega) | (constructor <;> omega)) | (simp [-List.getD_eq_getElem?_getD, -Int.default_eq_zero]; done))
        · omega
        all_goals repeat' (first | exact True.intro | refine leF_cons rfl ?_ ?_ | refine leS_cons rfl ?_ ?_ | (show PLe _ _ _ _; conv => whnf) | (show SLe _ _ _ _; conv => whnf) | (show PLeL _ _ _ _; conv => whnf) | apply And.intro | rfl | exact Nat.le_refl _ | exact fun _ _ => rfl | exact rowEq0 _ _)
        all_goals (try rw [hst])
        all_goals first | omega | exact fun _ _ => rfl
      · rw [hj] at hc3
        have hst : goodL v g (i + 1) = goodL v g i ++ [v.getD i default] := by rw [goodL, if_pos (by simpa using hc3)]
        generalize hL : srt (goodL v g i) = L at hsl ⊢
        conv => whnf
        refine ⟨?_, ?_⟩
        · (try conv => whnf)
          (repeat' (first | exact True.intro | exact fun _ h => h | refine inR64_of ?_ ?_ | apply And.intro | refine maxLen_ge ?_)) <;> (first | omega | (dsimp only; omega) | (dsimp only [List.length_cons, List.length_nil]; omega) | (intro hg; rw [hg]; rfl) | (intro hg hh; rw [hg, hh]; rfl) | (intro hg; simp [-List.getD_eq_getElem?_getD, -Int.default_eq_zero] at hg; first | omega | (refine inR64_of ?_ ?_ <;> omega) | (constructor <;> omega)) | (simp [-List.getD_eq_getElem?_getD, -Int.default_eq_zero]; done))
        refine LSem.loop (n := 63) mix (α := Nat) (fun k => k ≤ L.length ∧ ∀ j, k ≤ j → j < L.length → v.getD i default < L.getD j default)
          (fun k => [(0, .sl τ 1 v.length (fl eInt v)), (1, .sl τ' 1 g.length (fl eBool g)), (6, .os 1000000), (8, .int .i64 (v.getD i default)), (9, .int .i64 k), (15, .sl τ 1 v.length (fl eInt v)), (16, .int .i64 v.length), (17, .int .i64 i)])
          (fun k => [(1000000, .row 0 3 1 L.length (fl eInt L))]) (fun k => k) L.length ?_ ?_ ?_
        · exact ⟨Nat.le_refl _, fun j h1 h2 => by omega⟩
        · refine ⟨rfl, rfl, ?_, ?_⟩
          all_goals repeat' (first | exact True.intro | refine leF_cons rfl ?_ ?_ | refine leS_cons rfl ?_ ?_ | (show PLe _ _ _ _; conv => whnf) | (show SLe _ _ _ _; conv => whnf) | (show PLeL _ _ _ _; conv => whnf) | apply And.intro | rfl | exact Nat.le_refl _ | exact fun _ _ => rfl | exact rowEq0 _ _)
          all_goals (try rw [hj])
        · intro k hk
          obtain ⟨hk, hall⟩ := hk
          conv => whnf
          refine ⟨?_, fun hc4 => ?_, fun hc4 => ?_⟩
          · (try conv => whnf)
            (repeat' (first | exact True.intro | exact fun _ h => h | refine inR64_of ?_ ?_ | apply And.intro | refine maxLen_ge ?_)) <;> (first | omega | (dsimp only; omega) | (dsimp only [List.length_cons, List.length_nil]; omega) | (intro hg; rw [hg]; rfl) | (intro hg hh; rw [hg, hh]; rfl) | (intro hg; simp [-List.getD_eq_getElem?_getD, -Int.default_eq_zero] at hg; first | omega | (refine inR64_of ?_ ?_ <;> omega) | (constructor <;> omega)) | (simp [-List.getD_eq_getElem?_getD, -Int.default_eq_zero]; done))
          · simp only [bif_t, bif_f, decide_eq_true_eq, decide_eq_false_iff_not, Bool.not_eq_true', Bool.not_eq_false', Bool.and_eq_true, Bool.or_eq_true, Bool.and_eq_false_iff, Bool.or_eq_false_iff, beq_iff_eq, bne_iff_ne, beq_eq_false_iff_ne, bne_eq_false_iff_eq, reduceCtorEq, false_and, and_false, true_and, and_true, or_false, false_or, or_true, true_or, not_true_eq_false, not_false_eq_true, Int.toNat_zero] at hc4
            obtain ⟨h1, h2⟩ := hc4
            have hk1 : ((k : Int) - 1).toNat = k - 1 := by omega
            rw [hk1] at h2
            conv => whnf
            refine ⟨?_, k - 1, ⟨by omega, fun j hj1 hj2 => ?_⟩, ?_, rfl, rfl, ?_, ?_⟩
            · (try conv => whnf)
              (repeat' (first | exact True.intro | exact fun _ h => h | refine inR64_of ?_ ?_ | apply And.intro | refine maxLen_ge ?_)) <;> (first | omega | (dsimp only; omega) | (dsimp only [List.length_cons, List.length_nil]; omega) | (intro hg; rw [hg]; rfl) | (intro hg hh; rw [hg, hh]; rfl) | (intro hg; simp [-List.getD_eq_getElem?_getD, -Int.default_eq_zero] at hg; first | omega | (refine inR64_of ?_ ?_ <;> omega) | (constructor <;> omega)) | (simp [-List.getD_eq_getElem?_getD, -Int.default_eq_zero]; done))
            · by_cases e : j = k - 1
              · rw [e]; exact h2
              · exact hall j (by omega) hj2
            · omega
            all_goals repeat' (first | exact True.intro | refine leF_cons rfl ?_ ?_ | refine leS_cons rfl ?_ ?_ | (show PLe _ _ _ _; conv => whnf) | (show SLe _ _ _ _; conv => whnf) | (show PLeL _ _ _ _; conv => whnf) | apply And.intro | rfl | exact Nat.le_refl _ | exact fun _ _ => rfl | exact rowEq0 _ _)
            all_goals omega
          · simp only [bif_t, bif_f, decide_eq_true_eq, decide_eq_false_iff_not, Bool.not_eq_true', Bool.not_eq_false', Bool.and_eq_true, Bool.or_eq_true, Bool.and_eq_false_iff, Bool.or_eq_false_iff, beq_iff_eq, bne_iff_ne, beq_eq_false_iff_ne, bne_eq_false_iff_eq, reduceCtorEq, false_and, and_false, true_and, and_true, or_false, false_or, or_true, true_or, not_true_eq_false, not_false_eq_true, Int.toNat_zero] at hc4
            have hk1 : ((k : Int) - 1).toNat = k - 1 := by omega
            rw [hk1] at hc4
            have hkn : ((k : Int)).toNat = k := by omega
            have q := ins_srt (M := goodL v g i) (x := v.getD i default) (k := k) (by rw [hL]; exact hk) (by rw [hL]; intro h0; omega) (by rw [hL]; exact hall)
            rw [hL, ← hst] at q
            have q1 := ins_row (L := L) (x := v.getD i default) hk
            rw [q] at q1
            have hsl1 := srt_len (goodL v g (i + 1))
            have hgl1 : (goodL v g (i + 1)).length = (goodL v g i).length + 1 := by rw [hst, List.length_append]; rfl
            conv => whnf
            refine ⟨rfl, ?_⟩
            conv => whnf
            refine ⟨?_, i + 1, (by omega : i + 1 ≤ v.length), ?_, rfl, rfl, ?_, ?_⟩
            · (try conv => whnf)
              (repeat' (first | exact True.intro | exact fun _ h => h | refine inR64_of ?_ ?_ | apply And.intro | refine maxLen_ge ?_)) <;> (first | omega | (dsimp only; omega) | (dsimp only [List.length_cons, List.length_nil]; omega) | (intro hg; rw [hg]; rfl) | (intro hg hh; rw [hg, hh]; rfl) | (intro hg; simp [-List.getD_eq_getElem?_getD, -Int.default_eq_zero] at hg; first | omega | (refine inR64_of ?_ ?_ <;> omega) | (constructor <;> omega)) | (simp [-List.getD_eq_getElem?_getD, -Int.default_eq_zero]; done))
            · omega
            all_goals repeat' (first | exact True.intro | refine leF_cons rfl ?_ ?_ | refine leS_cons rfl ?_ ?_ | (show PLe _ _ _ _; conv => whnf) | (show SLe _ _ _ _; conv => whnf) | (show PLeL _ _ _ _; conv => whnf) | apply And.intro | rfl | exact Nat.le_refl _ | exact fun _ _ => rfl | exact rowEq0 _ _)
            all_goals (try rw [hkn])
            all_goals first | omega | exact q1 | (simp only [List.length_cons, List.length_nil]; omega) | skip
    · replace hc2 := of_decide_eq_false hc2
      have : i = v.length := by omega
      subst this
      generalize hL : srt (goodL v g v.length) = L at hsl ⊢
      rw [← hsl]
      conv => whnf
      refine ⟨?_, fun hc3 => ?_, fun hc3 => ?_⟩
      · (try conv => whnf)
        (repeat' (first | exact True.intro | exact fun _ h => h | refine inR64_of ?_ ?_ | apply And.intro | refine maxLen_ge ?_)) <;> (first | omega | (dsimp only; omega) | (dsimp only [List.length_cons, List.length_nil]; omega) | (intro hg; rw [hg]; rfl) | (intro hg hh; rw [hg, hh]; rfl) | (intro hg; simp [-List.getD_eq_getElem?_getD, -Int.default_eq_zero] at hg; first | omega | (refine inR64_of ?_ ?_ <;> omega) | (constructor <;> omega)) | (simp [-List.getD_eq_getElem?_getD, -Int.default_eq_zero]; done))
      · simp only [bif_t, bif_f, decide_eq_true_eq, decide_eq_false_iff_not, Bool.not_eq_true', Bool.not_eq_false', Bool.and_eq_true, Bool.or_eq_true, Bool.and_eq_false_iff, Bool.or_eq_false_iff, beq_iff_eq, bne_iff_ne, beq_eq_false_iff_ne, bne_eq_false_iff_eq, reduceCtorEq, false_and, and_false, true_and, and_true, or_false, false_or, or_true, true_or, not_true_eq_false, not_false_eq_true, Int.toNat_zero] at hc3
        rw [if_pos (by omega)]
        conv => whnf
        refine ⟨?_, [], ?_⟩
        · (try conv => whnf)
          (repeat' (first | exact True.intro | exact fun _ h => h | refine inR64_of ?_ ?_ | apply And.intro | refine maxLen_ge ?_)) <;> (first | omega | (dsimp only; omega) | (dsimp only [List.length_cons, List.length_nil]; omega) | (intro hg; rw [hg]; rfl) | (intro hg hh; rw [hg, hh]; rfl) | (intro hg; simp [-List.getD_eq_getElem?_getD, -Int.default_eq_zero] at hg; first | omega | (refine inR64_of ?_ ?_ <;> omega) | (constructor <;> omega)) | (simp [-List.getD_eq_getElem?_getD, -Int.default_eq_zero]; done))
        conv => whnf
        refine ⟨rfl, ?_, trivial, trivial⟩
        all_goals repeat' (first | exact True.intro | refine leF_cons rfl ?_ ?_ | refine leS_cons rfl ?_ ?_ | (show PLe _ _ _ _; conv => whnf) | (show SLe _ _ _ _; conv => whnf) | (show PLeL _ _ _ _; conv => whnf) | apply And.intro | rfl | exact Nat.le_refl _ | exact fun _ _ => rfl | exact rowEq0 _ _)
      · simp only [bif_t, bif_f, decide_eq_true_eq, decide_eq_false_iff_not, Bool.not_eq_true', Bool.not_eq_false', Bool.and_eq_true, Bool.or_eq_true, Bool.and_eq_false_iff, Bool.or_eq_false_iff, beq_iff_eq, bne_iff_ne, beq_eq_false_iff_ne, bne_eq_false_iff_eq, reduceCtorEq, false_and, and_false, true_and, and_true, or_false, false_or, or_true, true_or, not_true_eq_false, not_false_eq_true, Int.toNat_zero] at hc3
        have h0 : ¬ L.length = 0 := by omega
        rw [if_neg h0]
        have hdiv : (Int.tdiv ((L.length : Int) - 1) 2).toNat = (L.length - 1) / 2 := by
          rw [Int.tdiv_eq_ediv_of_nonneg (by omega)]; omega
        have hdiv2 : 0 ≤ Int.tdiv ((L.length : Int) - 1) 2 ∧ Int.tdiv ((L.length : Int) - 1) 2 ≤ 1000000 := by
          rw [Int.tdiv_eq_ediv_of_nonneg (by omega)]; omega
        conv => whnf
        refine ⟨?_, [], ?_⟩
        · (try conv => whnf)
          (repeat' (first | exact True.intro | exact fun _ h => h | refine inR64_of ?_ ?_ | apply And.intro | refine maxLen_ge ?_)) <;> (first | omega | (dsimp only; omega) | (dsimp only [List.length_cons, List.length_nil]; omega) | (intro hg; rw [hg]; rfl) | (intro hg hh; rw [hg, hh]; rfl) | (intro hg; simp [-List.getD_eq_getElem?_getD, -Int.default_eq_zero] at hg; first | omega | (refine inR64_of ?_ ?_ <;> omega) | (constructor <;> omega)) | (simp [-List.getD_eq_getElem?_getD, -Int.default_eq_zero]; done))
        conv => whnf
        refine ⟨rfl, ?_, trivial, trivial⟩
        all_goals repeat' (first | exact True.intro | refine leF_cons rfl ?_ ?_ | refine leS_cons rfl ?_ ?_ | (show PLe _ _ _ _; conv => whnf) | (show SLe _ _ _ _; conv => whnf) | (show PLeL _ _ _ _; conv => whnf) | apply And.intro | rfl | exact Nat.le_refl _ | exact fun _ _ => rfl | exact rowEq0 _ _)
        rw [hdiv]
end Pv
end Go.Proofs.Ytogoplhikmmggaa
