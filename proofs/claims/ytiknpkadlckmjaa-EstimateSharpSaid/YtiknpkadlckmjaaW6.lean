/- LAW 29, THE WALKS, 6: lists of bounds, second part. -/
import Derived.Test.YtiknpkadlckmjaaW5
namespace Go.Proofs.Ytiknpkadlckmjaa
namespace Pv

theorem call29 (τ τ' : Nat) (l : List Bo) (v : List Int) (hl : l.length ≤ 1000) : PureCall Try.prog 29 [.sl τ 2 l.length (fl eBo l), .sl τ' 1 v.length (fl eInt v)] [] ⟨.bool (withinF l v), [], []⟩ := by
  refine pure_call mix Try.func29 fits29 rfl ?_
  conv => whnf
  refine ⟨trivial, fun hc => ?_, fun hc => ?_⟩
  · conv => whnf
    refine ⟨?_, [], ?_⟩
    · (try conv => whnf)
      (repeat' (first | exact True.intro | exact fun _ h => h | refine inR64_of ?_ ?_ | apply And.intro | refine maxLen_ge ?_)) <;> (first | omega | (dsimp only; omega) | (dsimp only [List.length_cons, List.length_nil]; omega) | (intro hg; rw [hg]; rfl) | (intro hg hh; rw [hg, hh]; rfl) | (intro hg; simp [-List.getD_eq_getElem?_getD, -Int.default_eq_zero] at hg; first | omega | (refine inR64_of ?_ ?_ <;> omega) | (constructor <;> omega)) | (simp [-List.getD_eq_getElem?_getD, -Int.default_eq_zero]; done))
    conv => whnf
    refine ⟨rfl, ?_, trivial, trivial⟩
    all_goals repeat' (first | exact True.intro | refine leF_cons rfl ?_ ?_ | refine leS_cons rfl ?_ ?_ | (show PLe _ _ _ _; conv => whnf) | (show SLe _ _ _ _; conv => whnf) | (show PLeL _ _ _ _; conv => whnf) | apply And.intro | rfl | exact Nat.le_refl _ | exact fun _ _ => rfl | exact rowEq0 _ _)
    simp [-List.getD_eq_getElem?_getD, -Int.default_eq_zero] at hc
    unfold withinF
    rw [decide_eq_false (by omega)]; rfl
  · have hlen : l.length = v.length := by simp [-List.getD_eq_getElem?_getD, -Int.default_eq_zero] at hc; omega
    conv => whnf
    refine ⟨trivial, ?_⟩
    refine LSem.loop (n := 36) mix (α := Nat) (fun i => i ≤ l.length ∧ scan (outAt l v) 0 l.length = scan (outAt l v) i (l.length - i))
      (fun i => [(0, .sl τ 2 l.length (fl eBo l)), (1, .sl τ' 1 v.length (fl eInt v)), (12, .sl τ 2 l.length (fl eBo l)), (13, .int .i64 l.length), (14, .int .i64 i)])
      (fun i => []) (fun i => l.length - i) 0 ?_ ?_ ?_
    · exact ⟨by omega, rfl⟩
    · refine ⟨rfl, rfl, ?_, ?_⟩
      all_goals repeat' (first | exact True.intro | refine leF_cons rfl ?_ ?_ | refine leS_cons rfl ?_ ?_ | (show PLe _ _ _ _; conv => whnf) | (show SLe _ _ _ _; conv => whnf) | (show PLeL _ _ _ _; conv => whnf) | apply And.intro | rfl | exact Nat.le_refl _ | exact fun _ _ => rfl | exact rowEq0 _ _)
    · intro i hx
      obtain ⟨hi, hsc⟩ := hx
      have hj' : ((i : Int)).toNat = i := by omega
      conv => whnf
      refine ⟨trivial, fun hc => ?_, fun hc => ?_⟩
      · replace hc := dec_iff hc
        simp only [if_true] at hc
        have hlt : i < l.length := by omega
        conv => whnf
        refine ⟨rfl, ?_⟩
        conv => whnf
        refine ⟨?_, fun hc1 => ?_, fun hc1 => ?_⟩
        · (try conv => whnf)
          (repeat' (first | exact True.intro | exact fun _ h => h | refine inR64_of ?_ ?_ | apply And.intro | refine maxLen_ge ?_)) <;> (first | omega | (dsimp only; omega) | (dsimp only [List.length_cons, List.length_nil]; omega) | (intro hg; rw [hg]; rfl) | (intro hg hh; rw [hg, hh]; rfl) | (intro hg; simp [-List.getD_eq_getElem?_getD, -Int.default_eq_zero] at hg; first | omega | (refine inR64_of ?_ ?_ <;> omega) | (constructor <;> omega)) | (simp [-List.getD_eq_getElem?_getD, -Int.default_eq_zero]; done))
        · conv => whnf
          refine ⟨?_, [], ?_⟩
          · (try conv => whnf)
            (repeat' (first | exact True.intro | exact fun _ h => h | refine inR64_of ?_ ?_ | apply And.intro | refine maxLen_ge ?_)) <;> (first | omega | (dsimp only; omega) | (dsimp only [List.length_cons, List.length_nil]; omega) | (intro hg; rw [hg]; rfl) | (intro hg hh; rw [hg, hh]; rfl) | (intro hg; simp [-List.getD_eq_getElem?_getD, -Int.default_eq_zero] at hg; first | omega | (refine inR64_of ?_ ?_ <;> omega) | (constructor <;> omega)) | (simp [-List.getD_eq_getElem?_getD, -Int.default_eq_zero]; done))
          conv => whnf
          refine ⟨rfl, ?_, trivial, trivial⟩
          all_goals repeat' (first | exact True.intro | refine leF_cons rfl ?_ ?_ | refine leS_cons rfl ?_ ?_ | (show PLe _ _ _ _; conv => whnf) | (show SLe _ _ _ _; conv => whnf) | (show PLeL _ _ _ _; conv => whnf) | apply And.intro | rfl | exact Nat.le_refl _ | exact fun _ _ => rfl | exact rowEq0 _ _)
          rw [hj'] at hc1
          simp [-List.getD_eq_getElem?_getD, -Int.default_eq_zero] at hc1
          have hw : outAt l v i = 1 := by unfold outAt; rw [if_pos (by omega)]
          unfold withinF
          rw [hsc, scan_hit (by omega) (by rw [hw]; decide), hw]; simp
        · conv => whnf
          refine ⟨?_, i + 1, ⟨?_, ?_⟩, ?_, rfl, rfl, ?_, ?_⟩
          · (try conv => whnf)
            (repeat' (first | exact True.intro | exact fun _ h => h | refine inR64_of ?_ ?_ | apply And.intro | refine maxLen_ge ?_)) <;> (first | omega | (dsimp only; omega) | (dsimp only [List.length_cons, List.length_nil]; omega) | (intro hg; rw [hg]; rfl) | (intro hg hh; rw [hg, hh]; rfl) | (intro hg; simp [-List.getD_eq_getElem?_getD, -Int.default_eq_zero] at hg; first | omega | (refine inR64_of ?_ ?_ <;> omega) | (constructor <;> omega)) | (simp [-List.getD_eq_getElem?_getD, -Int.default_eq_zero]; done))
          · omega
          · rw [hj'] at hc1
            simp [-List.getD_eq_getElem?_getD, -Int.default_eq_zero] at hc1
            rw [hsc, scan_step (by omega) (by unfold outAt; rw [if_neg (by omega)])]
            congr 1
          · omega
          all_goals repeat' (first | exact True.intro | refine leF_cons rfl ?_ ?_ | refine leS_cons rfl ?_ ?_ | (show PLe _ _ _ _; conv => whnf) | (show SLe _ _ _ _; conv => whnf) | (show PLeL _ _ _ _; conv => whnf) | apply And.intro | rfl | exact Nat.le_refl _ | exact fun _ _ => rfl | exact rowEq0 _ _)
      · replace hc := dec_iff hc
        simp only [Bool.false_eq_true, if_false] at hc
        conv => whnf
        refine ⟨?_, [], ?_⟩
        · (try conv => whnf)
          (repeat' (first | exact True.intro | exact fun _ h => h | refine inR64_of ?_ ?_ | apply And.intro | refine maxLen_ge ?_)) <;> (first | omega | (dsimp only; omega) | (dsimp only [List.length_cons, List.length_nil]; omega) | (intro hg; rw [hg]; rfl) | (intro hg hh; rw [hg, hh]; rfl) | (intro hg; simp [-List.getD_eq_getElem?_getD, -Int.default_eq_zero] at hg; first | omega | (refine inR64_of ?_ ?_ <;> omega) | (constructor <;> omega)) | (simp [-List.getD_eq_getElem?_getD, -Int.default_eq_zero]; done))
        conv => whnf
        refine ⟨rfl, ?_, trivial, trivial⟩
        all_goals repeat' (first | exact True.intro | refine leF_cons rfl ?_ ?_ | refine leS_cons rfl ?_ ?_ | (show PLe _ _ _ _; conv => whnf) | (show SLe _ _ _ _; conv => whnf) | (show PLeL _ _ _ _; conv => whnf) | apply And.intro | rfl | exact Nat.le_refl _ | exact fun _ _ => rfl | exact rowEq0 _ _)
        unfold withinF
        rw [hsc, show l.length - i = 0 from by omega, decide_eq_true hlen]; rfl


/-! ### Narrow -/
def nar (a b : List Bo) (i : Nat) : Bo := ⟨mx (a.getD i default).lo (b.getD i default).lo, mn (a.getD i default).hi (b.getD i default).hi⟩
def narBad (a b : List Bo) (i : Nat) : Int := if (nar a b i).lo > (nar a b i).hi then 48 else 0
def narrowF (a b : List Bo) : List Bo × Int :=
  if a.length ≠ b.length then ([], 3) else if scan (narBad a b) 0 a.length ≠ 0 then ([], 48) else ((List.range a.length).map (nar a b), 0)
def pvNar (r : List Bo × Int) : PV := .tup [.sl 0 2 r.1.length (fl eBo r.1), .int .i64 r.2]
def c25L1 : C := (.seq (.reg [⟨(some 18), 288, none, .bi false .lss (.t 17) (.t 16)⟩])
  (.seq (.cond (.t 18) .skip (.exit 0))
  (.seq (.block 1 (.seq (.reg [⟨(some 19), 304, none, .mv (.t 17)⟩,
    ⟨(some 20), 320, none, .ia 2 (.t 15) (.t 17)⟩,
    ⟨(some 21), 336, none, .ld 2 true (.t 20)⟩,
    ⟨(some 8), 128, none, .al [(.int .i64 0), (.int .i64 0)]⟩,
    ⟨(some 7), 112, none, .mv (.t 19)⟩,
    ⟨none, 0, none, .st 2 (.t 8) (.t 21)⟩])
  (.seq (.drw [⟨(some 22), 352, none, .fa 0 (.t 8)⟩,
    ⟨(some 23), 368, none, .ld 1 false (.t 22)⟩,
    ⟨(some 24), 384, none, .mv (.t 1)⟩,
    ⟨(some 25), 400, none, .mv (.t 7)⟩,
    ⟨(some 26), 416, none, .ia 2 (.t 24) (.t 25)⟩,
    ⟨(some 27), 432, none, .fa 0 (.t 26)⟩,
    ⟨(some 28), 448, none, .ld 1 false (.t 27)⟩,
    ⟨(some 29), 464, none, .mx [(.t 23), (.t 28)]⟩,
    ⟨(some 30), 480, none, .fa 1 (.t 8)⟩,
    ⟨(some 31), 496, none, .ld 1 false (.t 30)⟩,
    ⟨(some 32), 512, none, .mv (.t 1)⟩,
    ⟨(some 33), 528, none, .mv (.t 7)⟩,
    ⟨(some 34), 544, none, .ia 2 (.t 32) (.t 33)⟩,
    ⟨(some 35), 560, none, .fa 1 (.t 34)⟩,
    ⟨(some 36), 576, none, .ld 1 false (.t 35)⟩,
    ⟨(some 37), 592, none, .mn [(.t 31), (.t 36)]⟩,
    ⟨(some 38), 608, none, .bd [(.int .i64 0), (.int .i64 0)] [(0, 1, (.t 29)), (1, 1, (.t 37))]⟩,
    ⟨(some 9), 144, none, .al [(.int .i64 0), (.int .i64 0)]⟩,
    ⟨none, 0, none, .st 2 (.t 9) (.t 38)⟩]
    [(0, 2, 22), (0, 3, 22), (0, 4, 22), (0, 5, 22), (0, 6, 22), (0, 8, 22), (0, 9, 22), (0, 10, 22), (0, 11, 22), (0, 12, 22), (0, 13, 22), (0, 14, 22), (0, 15, 22), (0, 17, 22), (1, 2, 23), (1, 3, 23), (1, 4, 23), (1, 5, 23), (1, 6, 23), (1, 8, 23), (1, 9, 23), (1, 10, 23), (1, 11, 23), (1, 12, 23), (1, 13, 23), (1, 14, 23), (1, 15, 23), (1, 17, 23), (2, 3, 24), (2, 8, 24), (2, 9, 24), (2, 10, 24), (2, 11, 24), (2, 12, 24), (2, 13, 24), (2, 14, 24), (2, 15, 24), (2, 17, 24), (3, 8, 25), (3, 9, 25), (3, 10, 25), (3, 11, 25), (3, 12, 25), (3, 13, 25), (3, 14, 25), (3, 15, 25), (3, 17, 25), (4, 8, 26), (4, 9, 26), (4, 10, 26), (4, 11, 26), (4, 12, 26), (4, 13, 26), (4, 14, 26), (4, 15, 26), (4, 17, 26), (5, 8, 27), (5, 9, 27), (5, 10, 27), (5, 11, 27), (5, 12, 27), (5, 13, 27), (5, 14, 27), (5, 15, 27), (5, 17, 27), (6, 8, 28), (6, 9, 28), (6, 10, 28), (6, 11, 28), (6, 12, 28), (6, 13, 28), (6, 14, 28), (6, 15, 28), (6, 17, 28), (7, 8, 29), (7, 9, 29), (7, 10, 29), (7, 11, 29), (7, 12, 29), (7, 13, 29), (7, 14, 29), (7, 15, 29), (7, 17, 29), (8, 10, 30), (8, 11, 30), (8, 12, 30), (8, 13, 30), (8, 14, 30), (8, 17, 30), (9, 10, 31), (9, 11, 31), (9, 12, 31), (9, 13, 31), (9, 14, 31), (9, 17, 31), (10, 11, 32), (10, 17, 32), (11, 17, 33), (12, 17, 34), (13, 17, 35), (14, 17, 36), (15, 17, 37), (16, 17, 38)])
  (.seq (.seq (.reg [⟨(some 39), 624, none, .fa 0 (.t 9)⟩,
    ⟨(some 40), 640, none, .ld 1 false (.t 39)⟩,
    ⟨(some 41), 656, none, .fa 1 (.t 9)⟩,
    ⟨(some 42), 672, none, .ld 1 false (.t 41)⟩,
    ⟨(some 43), 688, none, .bi false .gtr (.t 40) (.t 42)⟩])
  (.cond (.t 43) (.seq (.reg [⟨(some 4), 64, none, .mv (.c (.nil 2))⟩,
    ⟨(some 5), 80, none, .mv (.c (.int .i64 48))⟩])
  .ret) .skip))
  (.reg [⟨(some 44), 704, none, .mv (.t 6)⟩,
    ⟨(some 45), 720, none, .ld 2 true (.t 9)⟩,
    ⟨(some 46), 736, none, .bs 44 2 [(.t 45)]⟩,
    ⟨(some 47), 752, none, .app 44 2 16 (.t 44) (.t 46)⟩,
    ⟨(some 6), 96, none, .mv (.t 47)⟩])))))
  (.reg [⟨(some 48), 768, none, .bi false .add (.t 17) (.c (.int .i64 1))⟩,
    ⟨(some 17), 272, none, .mv (.t 48)⟩]))))
def c25 : C := (.seq (.reg [⟨(some 4), 64, none, .mv (.c (.nil 2))⟩,
    ⟨(some 5), 80, none, .mv (.c (.int .i64 0))⟩])
  (.seq (.seq (.reg [⟨(some 10), 160, none, .mv (.t 0)⟩,
    ⟨(some 11), 176, none, .len (.t 10)⟩,
    ⟨(some 12), 192, none, .mv (.t 1)⟩,
    ⟨(some 13), 208, none, .len (.t 12)⟩,
    ⟨(some 14), 224, none, .bi false .neq (.t 11) (.t 13)⟩])
  (.cond (.t 14) (.seq (.reg [⟨(some 4), 64, none, .mv (.c (.nil 2))⟩,
    ⟨(some 5), 80, none, .mv (.c (.int .i64 3))⟩])
  .ret) .skip))
  (.seq (.reg [⟨(some 6), 96, none, .mv (.c (.nil 2))⟩])
  (.seq (.seq (.reg [⟨(some 15), 240, none, .mv (.t 0)⟩,
    ⟨(some 16), 256, none, .len (.t 15)⟩,
    ⟨(some 17), 272, none, .mv (.c (.int .i64 0))⟩])
  (.block 0 (.loop c25L1)))
  (.seq (.reg [⟨(some 49), 784, none, .mv (.t 6)⟩,
    ⟨(some 4), 64, none, .mv (.t 49)⟩,
    ⟨(some 5), 80, none, .mv (.c (.int .i64 0))⟩])
  .ret)))))
def c26L1 : C := (.seq (.reg [⟨(some 17), 272, none, .bi false .lss (.t 16) (.t 15)⟩])
  (.seq (.cond (.t 17) .skip (.exit 0))
  (.seq (.block 1 (.seq (.reg [⟨(some 18), 288, none, .mv (.t 16)⟩,
    ⟨(some 7), 112, none, .mv (.t 18)⟩])
  (.seq (.drw [⟨(some 19), 304, none, .mv (.t 0)⟩,
    ⟨(some 20), 320, none, .mv (.t 7)⟩,
    ⟨(some 21), 336, none, .ia 2 (.t 19) (.t 20)⟩,
    ⟨(some 22), 352, none, .fa 0 (.t 21)⟩,
    ⟨(some 23), 368, none, .ld 1 false (.t 22)⟩,
    ⟨(some 24), 384, none, .mv (.t 1)⟩,
    ⟨(some 25), 400, none, .mv (.t 7)⟩,
    ⟨(some 26), 416, none, .ia 2 (.t 24) (.t 25)⟩,
    ⟨(some 27), 432, none, .fa 0 (.t 26)⟩,
    ⟨(some 28), 448, none, .ld 1 false (.t 27)⟩,
    ⟨(some 29), 464, none, .mx [(.t 23), (.t 28)]⟩,
    ⟨(some 30), 480, none, .mv (.t 0)⟩,
    ⟨(some 31), 496, none, .mv (.t 7)⟩,
    ⟨(some 32), 512, none, .ia 2 (.t 30) (.t 31)⟩,
    ⟨(some 33), 528, none, .fa 1 (.t 32)⟩,
    ⟨(some 34), 544, none, .ld 1 false (.t 33)⟩,
    ⟨(some 35), 560, none, .mv (.t 1)⟩,
    ⟨(some 36), 576, none, .mv (.t 7)⟩,
    ⟨(some 37), 592, none, .ia 2 (.t 35) (.t 36)⟩,
    ⟨(some 38), 608, none, .fa 1 (.t 37)⟩,
    ⟨(some 39), 624, none, .ld 1 false (.t 38)⟩,
    ⟨(some 40), 640, none, .mn [(.t 34), (.t 39)]⟩,
    ⟨(some 41), 656, none, .bd [(.int .i64 0), (.int .i64 0)] [(0, 1, (.t 29)), (1, 1, (.t 40))]⟩,
    ⟨(some 8), 128, none, .al [(.int .i64 0), (.int .i64 0)]⟩,
    ⟨none, 0, none, .st 2 (.t 8) (.t 41)⟩]
    [(0, 1, 19), (0, 5, 19), (0, 6, 19), (0, 7, 19), (0, 8, 19), (0, 9, 19), (0, 11, 19), (0, 12, 19), (0, 13, 19), (0, 14, 19), (0, 15, 19), (0, 16, 19), (0, 17, 19), (0, 18, 19), (0, 19, 19), (0, 20, 19), (0, 21, 19), (0, 23, 19), (1, 5, 20), (1, 6, 20), (1, 7, 20), (1, 8, 20), (1, 9, 20), (1, 11, 20), (1, 12, 20), (1, 13, 20), (1, 14, 20), (1, 15, 20), (1, 16, 20), (1, 17, 20), (1, 18, 20), (1, 19, 20), (1, 20, 20), (1, 21, 20), (1, 23, 20), (2, 5, 21), (2, 6, 21), (2, 7, 21), (2, 8, 21), (2, 9, 21), (2, 11, 21), (2, 12, 21), (2, 13, 21), (2, 14, 21), (2, 15, 21), (2, 16, 21), (2, 17, 21), (2, 18, 21), (2, 19, 21), (2, 20, 21), (2, 21, 21), (2, 23, 21), (3, 5, 22), (3, 6, 22), (3, 7, 22), (3, 8, 22), (3, 9, 22), (3, 11, 22), (3, 12, 22), (3, 13, 22), (3, 14, 22), (3, 15, 22), (3, 16, 22), (3, 17, 22), (3, 18, 22), (3, 19, 22), (3, 20, 22), (3, 21, 22), (3, 23, 22), (4, 5, 23), (4, 6, 23), (4, 7, 23), (4, 8, 23), (4, 9, 23), (4, 11, 23), (4, 12, 23), (4, 13, 23), (4, 14, 23), (4, 15, 23), (4, 16, 23), (4, 17, 23), (4, 18, 23), (4, 19, 23), (4, 20, 23), (4, 21, 23), (4, 23, 23), (5, 6, 24), (5, 11, 24), (5, 12, 24), (5, 13, 24), (5, 14, 24), (5, 15, 24), (5, 16, 24), (5, 17, 24), (5, 18, 24), (5, 19, 24), (5, 20, 24), (5, 21, 24), (5, 23, 24), (6, 11, 25), (6, 12, 25), (6, 13, 25), (6, 14, 25), (6, 15, 25), (6, 16, 25), (6, 17, 25), (6, 18, 25), (6, 19, 25), (6, 20, 25), (6, 21, 25), (6, 23, 25), (7, 11, 26), (7, 12, 26), (7, 13, 26), (7, 14, 26), (7, 15, 26), (7, 16, 26), (7, 17, 26), (7, 18, 26), (7, 19, 26), (7, 20, 26), (7, 21, 26), (7, 23, 26), (8, 11, 27), (8, 12, 27), (8, 13, 27), (8, 14, 27), (8, 15, 27), (8, 16, 27), (8, 17, 27), (8, 18, 27), (8, 19, 27), (8, 20, 27), (8, 21, 27), (8, 23, 27), (9, 11, 28), (9, 12, 28), (9, 13, 28), (9, 14, 28), (9, 15, 28), (9, 16, 28), (9, 17, 28), (9, 18, 28), (9, 19, 28), (9, 20, 28), (9, 21, 28), (9, 23, 28), (10, 11, 29), (10, 12, 29), (10, 13, 29), (10, 14, 29), (10, 15, 29), (10, 16, 29), (10, 17, 29), (10, 18, 29), (10, 19, 29), (10, 20, 29), (10, 21, 29), (10, 23, 29), (11, 12, 30), (11, 16, 30), (11, 17, 30), (11, 18, 30), (11, 19, 30), (11, 20, 30), (11, 23, 30), (12, 16, 31), (12, 17, 31), (12, 18, 31), (12, 19, 31), (12, 20, 31), (12, 23, 31), (13, 16, 32), (13, 17, 32), (13, 18, 32), (13, 19, 32), (13, 20, 32), (13, 23, 32), (14, 16, 33), (14, 17, 33), (14, 18, 33), (14, 19, 33), (14, 20, 33), (14, 23, 33), (15, 16, 34), (15, 17, 34), (15, 18, 34), (15, 19, 34), (15, 20, 34), (15, 23, 34), (16, 17, 35), (16, 23, 35), (17, 23, 36), (18, 23, 37), (19, 23, 38), (20, 23, 39), (21, 23, 40), (22, 23, 41)])
  (.seq (.seq (.reg [⟨(some 42), 672, none, .fa 0 (.t 8)⟩,
    ⟨(some 43), 688, none, .ld 1 false (.t 42)⟩,
    ⟨(some 44), 704, none, .fa 1 (.t 8)⟩,
    ⟨(some 45), 720, none, .ld 1 false (.t 44)⟩,
    ⟨(some 46), 736, none, .bi false .gtr (.t 43) (.t 45)⟩])
  (.cond (.t 46) (.seq (.reg [⟨(some 4), 64, none, .mv (.c (.nil 2))⟩,
    ⟨(some 5), 80, none, .mv (.c (.int .i64 48))⟩])
  .ret) .skip))
  (.reg [⟨(some 47), 752, none, .mv (.t 6)⟩,
    ⟨(some 48), 768, none, .ld 2 true (.t 8)⟩,
    ⟨(some 49), 784, none, .bs 44 2 [(.t 48)]⟩,
    ⟨(some 50), 800, none, .app 44 2 16 (.t 47) (.t 49)⟩,
    ⟨(some 6), 96, none, .mv (.t 50)⟩])))))
  (.reg [⟨(some 51), 816, none, .bi false .add (.t 16) (.c (.int .i64 1))⟩,
    ⟨(some 16), 256, none, .mv (.t 51)⟩]))))
def c26 : C := (.seq (.reg [⟨(some 4), 64, none, .mv (.c (.nil 2))⟩,
    ⟨(some 5), 80, none, .mv (.c (.int .i64 0))⟩])
  (.seq (.seq (.reg [⟨(some 9), 144, none, .mv (.t 0)⟩,
    ⟨(some 10), 160, none, .len (.t 9)⟩,
    ⟨(some 11), 176, none, .mv (.t 1)⟩,
    ⟨(some 12), 192, none, .len (.t 11)⟩,
    ⟨(some 13), 208, none, .bi false .neq (.t 10) (.t 12)⟩])
  (.cond (.t 13) (.seq (.reg [⟨(some 4), 64, none, .mv (.c (.nil 2))⟩,
    ⟨(some 5), 80, none, .mv (.c (.int .i64 3))⟩])
  .ret) .skip))
  (.seq (.reg [⟨(some 6), 96, none, .mv (.c (.nil 2))⟩])
  (.seq (.seq (.reg [⟨(some 14), 224, none, .mv (.t 0)⟩,
    ⟨(some 15), 240, none, .len (.t 14)⟩,
    ⟨(some 16), 256, none, .mv (.c (.int .i64 0))⟩])
  (.block 0 (.loop c26L1)))
  (.seq (.reg [⟨(some 52), 832, none, .mv (.t 6)⟩,
    ⟨(some 4), 64, none, .mv (.t 52)⟩,
    ⟨(some 5), 80, none, .mv (.c (.int .i64 0))⟩])
  .ret)))))
theorem fits25 : fits Try.prog false Try.f25 2 50 [(4, none), (5, none)] = some c25.er := by kernel_rfl
theorem fits26 : fits Try.prog false Try.f26 2 53 [(4, none), (5, none)] = some c26.er := by kernel_rfl

theorem call25 (τ τ' : Nat) (a b : List Bo) (hl : a.length ≤ 1000) : PureCall Try.prog 25 [.sl τ 2 a.length (fl eBo a), .sl τ' 2 b.length (fl eBo b)] [] ⟨pvNar (narrowF a b), [], []⟩ := by
  refine pure_call mix Try.func25 fits25 rfl ?_
  conv => whnf
  refine ⟨trivial, fun hc => ?_, fun hc => ?_⟩
  · simp [-List.getD_eq_getElem?_getD, -Int.default_eq_zero] at hc
    rw [show narrowF a b = ([], 3) by unfold narrowF; rw [if_pos (by omega)]]
    conv => whnf
    refine ⟨?_, [], ?_⟩
    · (try conv => whnf)
      (repeat' (first | exact True.intro | exact fun _ h => h | refine inR64_of ?_ ?_ | apply And.intro | refine maxLen_ge ?_)) <;> (first | omega | (dsimp only; omega) | (dsimp only [List.length_cons, List.length_nil]; omega) | (intro hg; rw [hg]; rfl) | (intro hg hh; rw [hg, hh]; rfl) | (intro hg; simp [-List.getD_eq_getElem?_getD, -Int.default_eq_zero] at hg; first | omega | (refine inR64_of ?_ ?_ <;> omega) | (constructor <;> omega)) | (simp [-List.getD_eq_getElem?_getD, -Int.default_eq_zero]; done))
    conv => whnf
    refine ⟨rfl, ?_, trivial, trivial⟩
    all_goals repeat' (first | exact True.intro | refine leF_cons rfl ?_ ?_ | refine leS_cons rfl ?_ ?_ | (show PLe _ _ _ _; conv => whnf) | (show SLe _ _ _ _; conv => whnf) | (show PLeL _ _ _ _; conv => whnf) | apply And.intro | rfl | exact Nat.le_refl _ | exact fun _ _ => rfl | exact rowEq0 _ _)
  · have hlen : a.length = b.length := by simp [-List.getD_eq_getElem?_getD, -Int.default_eq_zero] at hc; omega
    conv => whnf
    refine ⟨trivial, ?_⟩
    refine LSem.adopt 6 1000000 44 2 2 rfl rfl ?_
    refine LSem.loop (n := 50) mix (α := Nat × List Bo) (fun x => x.1 ≤ a.length ∧ scan (narBad a b) 0 a.length = scan (narBad a b) x.1 (a.length - x.1) ∧ x.2 = (List.range x.1).map (nar a b))
      (fun x => [(0, .sl τ 2 a.length (fl eBo a)), (1, .sl τ' 2 b.length (fl eBo b)), (6, .os 1000000), (15, .sl τ 2 a.length (fl eBo a)), (16, .int .i64 a.length), (17, .int .i64 x.1)])
      (fun x => [(1000000, .row 0 44 2 x.2.length (fl eBo x.2))]) (fun x => a.length - x.1) (0, []) ?_ ?_ ?_
    · exact ⟨by simp only; omega, rfl, rfl⟩
    · refine ⟨rfl, rfl, ?_, ?_⟩
      all_goals repeat' (first | exact True.intro | refine leF_cons rfl ?_ ?_ | refine leS_cons rfl ?_ ?_ | (show PLe _ _ _ _; conv => whnf) | (show SLe _ _ _ _; conv => whnf) | (show PLeL _ _ _ _; conv => whnf) | apply And.intro | rfl | exact Nat.le_refl _ | exact fun _ _ => rfl | exact rowEq0 _ _)
    · intro x hx
      obtain ⟨hi, hsc, hout⟩ := hx
      have hol : x.2.length = x.1 := by rw [hout]; simp
      conv => whnf
      refine ⟨trivial, fun hc => ?_, fun hc => ?_⟩
      · replace hc := dec_iff hc
        simp only [if_true] at hc
        have hlt : x.1 < a.length := by omega
        conv => whnf
        refine ⟨rfl, ?_⟩
        conv => whnf
        refine ⟨?_, fun hc1 => ?_, fun hc1 => ?_⟩
        · (try conv => whnf)
          (repeat' (first | exact True.intro | exact fun _ h => h | refine inR64_of ?_ ?_ | apply And.intro | refine maxLen_ge ?_)) <;> (first | omega | (dsimp only; omega) | (dsimp only [List.length_cons, List.length_nil]; omega) | (intro hg; rw [hg]; rfl) | (intro hg hh; rw [hg, hh]; rfl) | (intro hg; simp [-List.getD_eq_getElem?_getD, -Int.default_eq_zero] at hg; first | omega | (refine inR64_of ?_ ?_ <;> omega) | (constructor <;> omega)) | (simp [-List.getD_eq_getElem?_getD, -Int.default_eq_zero]; done))
        · have hw : narBad a b x.1 = 48 := if_pos (of_decide_eq_true hc1)
          rw [show narrowF a b = ([], 48) by unfold narrowF; rw [if_neg (by omega), if_pos (by rw [hsc, scan_hit (by omega) (by rw [hw]; decide), hw]; decide)]]
          conv => whnf
          refine ⟨?_, [], ?_⟩
          · (try conv => whnf)
            (repeat' (first | exact True.intro | exact fun _ h => h | refine inR64_of ?_ ?_ | apply And.intro | refine maxLen_ge ?_)) <;> (first | omega | (dsimp only; omega) | (dsimp only [List.length_cons, List.length_nil]; omega) | (intro hg; rw [hg]; rfl) | (intro hg hh; rw [hg, hh]; rfl) | (intro hg; simp [-List.getD_eq_getElem?_getD, -Int.default_eq_zero] at hg; first | omega | (refine inR64_of ?_ ?_ <;> omega) | (constructor <;> omega)) | (simp [-List.getD_eq_getElem?_getD, -Int.default_eq_zero]; done))
          conv => whnf
          refine ⟨rfl, ?_, trivial, trivial⟩
          all_goals repeat' (first | exact True.intro | refine leF_cons rfl ?_ ?_ | refine leS_cons rfl ?_ ?_ | (show PLe _ _ _ _; conv => whnf) | (show SLe _ _ _ _; conv => whnf) | (show PLeL _ _ _ _; conv => whnf) | apply And.intro | rfl | exact Nat.le_refl _ | exact fun _ _ => rfl | exact rowEq0 _ _)
        · conv => whnf
          refine ⟨?_, (x.1 + 1, x.2 ++ [nar a b x.1]), ⟨?_, ?_, ?_⟩, ?_, rfl, rfl, ?_, ?_⟩
          · (try conv => whnf)
            (repeat' (first | exact True.intro | exact fun _ h => h | refine inR64_of ?_ ?_ | apply And.intro | refine maxLen_ge ?_)) <;> (first | omega | (dsimp only; omega) | (dsimp only [List.length_cons, List.length_nil]; omega) | (intro hg; rw [hg]; rfl) | (intro hg hh; rw [hg, hh]; rfl) | (intro hg; simp [-List.getD_eq_getElem?_getD, -Int.default_eq_zero] at hg; first | omega | (refine inR64_of ?_ ?_ <;> omega) | (constructor <;> omega)) | (simp [-List.getD_eq_getElem?_getD, -Int.default_eq_zero]; done))
          · dsimp only; omega
          · have hw : narBad a b x.1 = 0 := if_neg (of_decide_eq_false hc1)
            rw [hsc, scan_step (by omega) hw]; dsimp only
            congr 1
          · dsimp only; rw [List.range_succ, List.map_append, ← hout]; rfl
          · dsimp only; omega
          all_goals repeat' (first | exact True.intro | refine leF_cons rfl ?_ ?_ | refine leS_cons rfl ?_ ?_ | (show PLe _ _ _ _; conv => whnf) | (show SLe _ _ _ _; conv => whnf) | (show PLeL _ _ _ _; conv => whnf) | apply And.intro | rfl | exact Nat.le_refl _ | exact fun _ _ => rfl | exact rowEq0 _ _)
          · simp
          · exact fl_push eBo x.2 (nar a b x.1)
      · replace hc := dec_iff hc
        simp only [Bool.false_eq_true, if_false] at hc
        rw [show narrowF a b = (x.2, 0) by unfold narrowF; rw [if_neg (by omega), if_neg (by rw [hsc, show a.length - x.1 = 0 from by omega]; simp [scan]), hout, show x.1 = a.length from by omega]]
        conv => whnf
        refine ⟨?_, [], ?_⟩
        · (try conv => whnf)
          (repeat' (first | exact True.intro | exact fun _ h => h | refine inR64_of ?_ ?_ | apply And.intro | refine maxLen_ge ?_)) <;> (first | omega | (dsimp only; omega) | (dsimp only [List.length_cons, List.length_nil]; omega) | (intro hg; rw [hg]; rfl) | (intro hg hh; rw [hg, hh]; rfl) | (intro hg; simp [-List.getD_eq_getElem?_getD, -Int.default_eq_zero] at hg; first | omega | (refine inR64_of ?_ ?_ <;> omega) | (constructor <;> omega)) | (simp [-List.getD_eq_getElem?_getD, -Int.default_eq_zero]; done))
        conv => whnf
        refine ⟨rfl, ?_, trivial, trivial⟩
        all_goals repeat' (first | exact True.intro | refine leF_cons rfl ?_ ?_ | refine leS_cons rfl ?_ ?_ | (show PLe _ _ _ _; conv => whnf) | (show SLe _ _ _ _; conv => whnf) | (show PLeL _ _ _ _; conv => whnf) | apply And.intro | rfl | exact Nat.le_refl _ | exact fun _ _ => rfl | exact rowEq0 _ _)

end Pv
end Go.Proofs.Ytiknpkadlckmjaa
