/- LAW 29, THE WALKS, 7: lists of bounds, third part. -/
import Derived.Test.YtiknpkadlckmjaaW6
namespace Go.Proofs.Ytiknpkadlckmjaa
namespace Pv

set_option maxRecDepth 100000 in
theorem call26 (τ τ' : Nat) (a b : List Bo) (hl : a.length ≤ 1000) : PureCall Try.prog 26 [.sl τ 2 a.length (fl eBo a), .sl τ' 2 b.length (fl eBo b)] [] ⟨pvNar (narrowF a b), [], []⟩ := by
  refine pure_call mix Try.func26 fits26 rfl ?_
  conv => whnf
  refine ⟨trivial, fun hc => ?_, fun hc => ?_⟩
  · simp [-List.getD_eq_getElem?_getD, -Int.default_eq_zero] at hc
    rw [show narrowF a b = ([], 3) by unfold narrowF; rw [if_pos (by omega)]]
    conv => whnf
    refine ⟨?_, [], ?_⟩
    · (try conv => whnf)
      (repeat' (first | exact True.intro | exact fun _ h => h | refine inR64_of ?_ ?_ | apply And.intro | refine maxLen_ge ?_)) <;> (first | omega | (dsimp only; omega) | (dsimp only [List.length_cons, List.length_nil]; omega) | (intro hg; rw [hg]; rfl) | (intro hg hh; rw [hg, hh]; rfl) | (intro hg; simp [-List.getD_eq_getElem?_getD, -Int.default_eq_zero] at hg; first | omega | (refine inR64_of ?_ ?_ <;> omega) | (constructor <;> omega)) | (simp [-List.getD_eq_getElem?_getD, -Int.default_eq_zero]; done))
    conv => whnf
    refine ⟨rfl, ?_, trivial, trivial⟩
    all_goals repeat' (first | exact True.intro | refine leF_cons rfl ?_ ?_ | refine leS_cons rfl ?_ ?_ | (show PLe _ _ _ _; conv => whnf) | (show SLe _ _ _ _; conv => whnf) | (show PLeL _ _ _ _; conv => whnf) | apply And.intro | rfl | exact Nat.le_refl _ | exact fun _ _ => rfl | exact rowEq0 _ _)
  · have hlen : a.length = b.length := by simp [-List.getD_eq_getElem?_getD, -Int.default_eq_zero] at hc; omega
    conv => whnf
    refine ⟨trivial, ?_⟩
    refine LSem.adopt 6 1000000 44 2 2 rfl rfl ?_
    refine LSem.loop (n := 53) mix (α := Nat × List Bo) (fun x => x.1 ≤ a.length ∧ scan (narBad a b) 0 a.length = scan (narBad a b) x.1 (a.length - x.1) ∧ x.2 = (List.range x.1).map (nar a b))
      (fun x => [(0, .sl τ 2 a.length (fl eBo a)), (1, .sl τ' 2 b.length (fl eBo b)), (6, .os 1000000), (14, .sl τ 2 a.length (fl eBo a)), (15, .int .i64 a.length), (16, .int .i64 x.1)])
      (fun x => [(1000000, .row 0 44 2 x.2.length (fl eBo x.2))]) (fun x => a.length - x.1) (0, []) ?_ ?_ ?_
    · exact ⟨by simp only; omega, rfl, rfl⟩
    · refine ⟨rfl, rfl, ?_, ?_⟩
      all_goals repeat' (first | exact True.intro | refine leF_cons rfl ?_ ?_ | refine leS_cons rfl ?_ ?_ | (show PLe _ _ _ _; conv => whnf) | (show SLe _ _ _ _; conv => whnf) | (show PLeL _ _ _ _; conv => whnf) | apply And.intro | rfl | exact Nat.le_refl _ | exact fun _ _ => rfl | exact rowEq0 _ _)
    · intro x hx
      obtain ⟨hi, hsc, hout⟩ := hx
      have hol : x.2.length = x.1 := by rw [hout]; simp
      conv => whnf
      refine ⟨trivial, fun hc => ?_, fun hc => ?_⟩
      · replace hc := dec_iff hc
        simp only [if_true] at hc
        have hlt : x.1 < a.length := by omega
        conv => whnf
        refine ⟨rfl, ?_⟩
        conv => whnf
        refine ⟨?_, fun hc1 => ?_, fun hc1 => ?_⟩
        · (try conv => whnf)
          (repeat' (first | exact True.intro | exact fun _ h => h | refine inR64_of ?_ ?_ | apply And.intro | refine maxLen_ge ?_)) <;> (first | omega | (dsimp only; omega) | (dsimp only [List.length_cons, List.length_nil]; omega) | (intro hg; rw [hg]; rfl) | (intro hg hh; rw [hg, hh]; rfl) | (intro hg; simp [-List.getD_eq_getElem?_getD, -Int.default_eq_zero] at hg; first | omega | (refine inR64_of ?_ ?_ <;> omega) | (constructor <;> omega)) | (simp [-List.getD_eq_getElem?_getD, -Int.default_eq_zero]; done))
        · have hw : narBad a b x.1 = 48 := if_pos (of_decide_eq_true hc1)
          rw [show narrowF a b = ([], 48) by unfold narrowF; rw [if_neg (by omega), if_pos (by rw [hsc, scan_hit (by omega) (by rw [hw]; decide), hw]; decide)]]
          conv => whnf
          refine ⟨?_, [], ?_⟩
          · (try conv => whnf)
            (repeat' (first | exact True.intro | exact fun _ h => h | refine inR64_of ?_ ?_ | apply And.intro | refine maxLen_ge ?_)) <;> (first | omega | (dsimp only; omega) | (dsimp only [List.length_cons, List.length_nil]; omega) | (intro hg; rw [hg]; rfl) | (intro hg hh; rw [hg, hh]; rfl) | (intro hg; simp [-List.getD_eq_getElem?_getD, -Int.default_eq_zero] at hg; first | omega | (refine inR64_of ?_ ?_ <;> omega) | (constructor <;> omega)) | (simp [-List.getD_eq_getElem?_getD, -Int.default_eq_zero]; done))
          conv => whnf
          refine ⟨rfl, ?_, trivial, trivial⟩
          all_goals repeat' (first | exact True.intro | refine leF_cons rfl ?_ ?_ | refine leS_cons rfl ?_ ?_ | (show PLe _ _ _ _; conv => whnf) | (show SLe _ _ _ _; conv => whnf) | (show PLeL _ _ _ _; conv => whnf) | apply And.intro | rfl | exact Nat.le_refl _ | exact fun _ _ => rfl | exact rowEq0 _ _)
        · conv => whnf
          refine ⟨?_, (x.1 + 1, x.2 ++ [nar a b x.1]), ⟨?_, ?_, ?_⟩, ?_, rfl, rfl, ?_, ?_⟩
          · (try conv => whnf)
            (repeat' (first | exact True.intro | exact fun _ h => h | refine inR64_of ?_ ?_ | apply And.intro | refine maxLen_ge ?_)) <;> (first | omega | (dsimp only; omega) | (dsimp only [List.length_cons, List.length_nil]; omega) | (intro hg; rw [hg]; rfl) | (intro hg hh; rw [hg, hh]; rfl) | (intro hg; simp [-List.getD_eq_getElem?_getD, -Int.default_eq_zero] at hg; first | omega | (refine inR64_of ?_ ?_ <;> omega) | (constructor <;> omega)) | (simp [-List.getD_eq_getElem?_getD, -Int.default_eq_zero]; done))
          · dsimp only; omega
          · have hw : narBad a b x.1 = 0 := if_neg (of_decide_eq_false hc1)
            rw [hsc, scan_step (by omega) hw]; dsimp only
            congr 1
          · dsimp only; rw [List.range_succ, List.map_append, ← hout]; rfl
          · dsimp only; omega
          all_goals repeat' (first | exact True.intro | refine leF_cons rfl ?_ ?_ | refine leS_cons rfl ?_ ?_ | (show PLe _ _ _ _; conv => whnf) | (show SLe _ _ _ _; conv => whnf) | (show PLeL _ _ _ _; conv => whnf) | apply And.intro | rfl | exact Nat.le_refl _ | exact fun _ _ => rfl | exact rowEq0 _ _)
          · simp
          · exact fl_push eBo x.2 (nar a b x.1)
      · replace hc := dec_iff hc
        simp only [Bool.false_eq_true, if_false] at hc
        rw [show narrowF a b = (x.2, 0) by unfold narrowF; rw [if_neg (by omega), if_neg (by rw [hsc, show a.length - x.1 = 0 from by omega]; simp [scan]), hout, show x.1 = a.length from by omega]]
        conv => whnf
        refine ⟨?_, [], ?_⟩
        · (try conv => whnf)
          (repeat' (first | exact True.intro | exact fun _ h => h | refine inR64_of ?_ ?_ | apply And.intro | refine maxLen_ge ?_)) <;> (first | omega | (dsimp only; omega) | (dsimp only [List.length_cons, List.length_nil]; omega) | (intro hg; rw [hg]; rfl) | (intro hg hh; rw [hg, hh]; rfl) | (intro hg; simp [-List.getD_eq_getElem?_getD, -Int.default_eq_zero] at hg; first | omega | (refine inR64_of ?_ ?_ <;> omega) | (constructor <;> omega)) | (simp [-List.getD_eq_getElem?_getD, -Int.default_eq_zero]; done))
        conv => whnf
        refine ⟨rfl, ?_, trivial, trivial⟩
        all_goals repeat' (first | exact True.intro | refine leF_cons rfl ?_ ?_ | refine leS_cons rfl ?_ ?_ | (show PLe _ _ _ _; conv => whnf) | (show SLe _ _ _ _; conv => whnf) | (show PLeL _ _ _ _; conv => whnf) | apply And.intro | rfl | exact Nat.le_refl _ | exact fun _ _ => rfl | exact rowEq0 _ _)


/-! ### Widest -/
def best (f : Nat → Int) : Nat → Nat
  | 0 => 0
  | i + 1 => if f i > f (best f i) then i else best f i
theorem best_lt (f : Nat → Int) : ∀ (i : Nat), 0 < i → best f i < i
  | 0, h => by omega
  | 1, h => by simp [best]
  | i + 2, h => by
    have := best_lt f (i + 1) (by omega)
    rw [best]; split <;> omega
def widF (l : List Bo) (i : Nat) : Int := widthF (l.getD i default)
def widestF (l : List Bo) : Int × Int × Bool :=
  if l.length = 0 then (0, 0, false) else ((best (widF l) l.length : Nat), widF l (best (widF l) l.length), true)
def pvWd (r : Int × Int × Bool) : PV := .tup [.int .i64 r.1, .int .i64 r.2.1, .bool r.2.2]
def c27L1 : C := (.seq (.reg [⟨(some 14), 224, none, .bi false .lss (.t 13) (.t 12)⟩])
  (.seq (.cond (.t 14) .skip (.exit 0))
  (.seq (.block 1 (.seq (.reg [⟨(some 15), 240, none, .mv (.t 13)⟩,
    ⟨(some 16), 256, none, .ia 2 (.t 11) (.t 13)⟩,
    ⟨(some 17), 272, none, .ld 2 true (.t 16)⟩,
    ⟨(some 7), 112, none, .al [(.int .i64 0), (.int .i64 0)]⟩,
    ⟨(some 6), 96, none, .mv (.t 15)⟩,
    ⟨none, 0, none, .st 2 (.t 7) (.t 17)⟩])
  (.seq (.drw [⟨(some 18), 288, none, .ld 2 true (.t 7)⟩,
    ⟨(some 19), 304, none, .call (.c (.fn (.func 34) [] [])) [(.t 18)]⟩,
    ⟨(some 20), 320, none, .mv (.t 0)⟩,
    ⟨(some 21), 336, none, .mv (.t 5)⟩,
    ⟨(some 22), 352, none, .ia 2 (.t 20) (.t 21)⟩,
    ⟨(some 23), 368, none, .ld 2 true (.t 22)⟩,
    ⟨(some 24), 384, none, .call (.c (.fn (.func 34) [] [])) [(.t 23)]⟩,
    ⟨(some 25), 400, none, .bi false .gtr (.t 19) (.t 24)⟩]
    [(0, 2, 18), (0, 3, 18), (0, 4, 18), (0, 5, 18), (1, 2, 19), (1, 3, 19), (1, 4, 19), (1, 5, 19), (2, 3, 20)])
  (.cond (.t 25) (.reg [⟨(some 26), 416, none, .mv (.t 6)⟩,
    ⟨(some 5), 80, none, .mv (.t 26)⟩]) .skip))))
  (.reg [⟨(some 27), 432, none, .bi false .add (.t 13) (.c (.int .i64 1))⟩,
    ⟨(some 13), 208, none, .mv (.t 27)⟩]))))
def c27 : C := (.seq (.reg [⟨(some 2), 32, none, .mv (.c (.int .i64 0))⟩,
    ⟨(some 3), 48, none, .mv (.c (.int .i64 0))⟩,
    ⟨(some 4), 64, none, .mv (.c (.bool false))⟩])
  (.seq (.seq (.reg [⟨(some 8), 128, none, .mv (.t 0)⟩,
    ⟨(some 9), 144, none, .len (.t 8)⟩,
    ⟨(some 10), 160, none, .bi false .eql (.t 9) (.c (.int .i64 0))⟩])
  (.cond (.t 10) (.seq (.reg [⟨(some 2), 32, none, .mv (.c (.int .i64 0))⟩,
    ⟨(some 3), 48, none, .mv (.c (.int .i64 0))⟩,
    ⟨(some 4), 64, none, .mv (.c (.bool false))⟩])
  .ret) .skip))
  (.seq (.reg [⟨(some 5), 80, none, .mv (.c (.int .i64 0))⟩])
  (.seq (.seq (.reg [⟨(some 11), 176, none, .mv (.t 0)⟩,
    ⟨(some 12), 192, none, .len (.t 11)⟩,
    ⟨(some 13), 208, none, .mv (.c (.int .i64 0))⟩])
  (.block 0 (.loop c27L1)))
  (.seq (.reg [⟨(some 28), 448, none, .mv (.t 5)⟩,
    ⟨(some 29), 464, none, .mv (.t 0)⟩,
    ⟨(some 30), 480, none, .mv (.t 5)⟩,
    ⟨(some 31), 496, none, .ia 2 (.t 29) (.t 30)⟩,
    ⟨(some 32), 512, none, .ld 2 true (.t 31)⟩,
    ⟨(some 33), 528, none, .call (.c (.fn (.func 34) [] [])) [(.t 32)]⟩,
    ⟨(some 2), 32, none, .mv (.t 28)⟩,
    ⟨(some 3), 48, none, .mv (.t 33)⟩,
    ⟨(some 4), 64, none, .mv (.c (.bool true))⟩])
  .ret)))))
def c28L1 : C := (.seq (.reg [⟨(some 13), 208, none, .bi false .lss (.t 12) (.t 11)⟩])
  (.seq (.cond (.t 13) .skip (.exit 0))
  (.seq (.block 1 (.seq (.reg [⟨(some 14), 224, none, .mv (.t 12)⟩,
    ⟨(some 6), 96, none, .mv (.t 14)⟩])
  (.seq (.drw [⟨(some 15), 240, none, .mv (.t 0)⟩,
    ⟨(some 16), 256, none, .mv (.t 6)⟩,
    ⟨(some 17), 272, none, .ia 2 (.t 15) (.t 16)⟩,
    ⟨(some 18), 288, none, .ld 2 true (.t 17)⟩,
    ⟨(some 19), 304, none, .call (.c (.fn (.func 35) [] [])) [(.t 18)]⟩,
    ⟨(some 20), 320, none, .mv (.t 0)⟩,
    ⟨(some 21), 336, none, .mv (.t 5)⟩,
    ⟨(some 22), 352, none, .ia 2 (.t 20) (.t 21)⟩,
    ⟨(some 23), 368, none, .ld 2 true (.t 22)⟩,
    ⟨(some 24), 384, none, .call (.c (.fn (.func 35) [] [])) [(.t 23)]⟩,
    ⟨(some 25), 400, none, .bi false .gtr (.t 19) (.t 24)⟩]
    [(0, 1, 15), (0, 5, 15), (0, 6, 15), (0, 7, 15), (0, 8, 15), (1, 5, 16), (1, 6, 16), (1, 7, 16), (1, 8, 16), (2, 5, 17), (2, 6, 17), (2, 7, 17), (2, 8, 17), (3, 5, 18), (3, 6, 18), (3, 7, 18), (3, 8, 18), (4, 5, 19), (4, 6, 19), (4, 7, 19), (4, 8, 19), (5, 6, 20)])
  (.cond (.t 25) (.reg [⟨(some 26), 416, none, .mv (.t 6)⟩,
    ⟨(some 5), 80, none, .mv (.t 26)⟩]) .skip))))
  (.reg [⟨(some 27), 432, none, .bi false .add (.t 12) (.c (.int .i64 1))⟩,
    ⟨(some 12), 192, none, .mv (.t 27)⟩]))))
def c28 : C := (.seq (.reg [⟨(some 2), 32, none, .mv (.c (.int .i64 0))⟩,
    ⟨(some 3), 48, none, .mv (.c (.int .i64 0))⟩,
    ⟨(some 4), 64, none, .mv (.c (.bool false))⟩])
  (.seq (.seq (.reg [⟨(some 7), 112, none, .mv (.t 0)⟩,
    ⟨(some 8), 128, none, .len (.t 7)⟩,
    ⟨(some 9), 144, none, .bi false .eql (.t 8) (.c (.int .i64 0))⟩])
  (.cond (.t 9) (.seq (.reg [⟨(some 2), 32, none, .mv (.c (.int .i64 0))⟩,
    ⟨(some 3), 48, none, .mv (.c (.int .i64 0))⟩,
    ⟨(some 4), 64, none, .mv (.c (.bool false))⟩])
  .ret) .skip))
  (.seq (.reg [⟨(some 5), 80, none, .mv (.c (.int .i64 0))⟩])
  (.seq (.seq (.reg [⟨(some 10), 160, none, .mv (.t 0)⟩,
    ⟨(some 11), 176, none, .len (.t 10)⟩,
    ⟨(some 12), 192, none, .mv (.c (.int .i64 0))⟩])
  (.block 0 (.loop c28L1)))
  (.seq (.reg [⟨(some 28), 448, none, .mv (.t 5)⟩,
    ⟨(some 29), 464, none, .mv (.t 0)⟩,
    ⟨(some 30), 480, none, .mv (.t 5)⟩,
    ⟨(some 31), 496, none, .ia 2 (.t 29) (.t 30)⟩,
    ⟨(some 32), 512, none, .ld 2 true (.t 31)⟩,
    ⟨(some 33), 528, none, .call (.c (.fn (.func 35) [] [])) [(.t 32)]⟩,
    ⟨(some 2), 32, none, .mv (.t 28)⟩,
    ⟨(some 3), 48, none, .mv (.t 33)⟩,
    ⟨(some 4), 64, none, .mv (.c (.bool true))⟩])
  .ret)))))
theorem fits27 : fits Try.prog false Try.f27 1 34 [(2, none), (3, none), (4, none)] = some c27.er := by kernel_rfl
theorem fits28 : fits Try.prog false Try.f28 1 34 [(2, none), (3, none), (4, none)] = some c28.er := by kernel_rfl

theorem call27 (τ : Nat) (l : List Bo) (hl : l.length ≤ 1000) (hr : ∀ b ∈ l, InB b) : PureCall Try.prog 27 [.sl τ 2 l.length (fl eBo l)] [] ⟨pvWd (widestF l), [], []⟩ := by
  refine pure_call mix Try.func27 fits27 rfl ?_
  conv => whnf
  refine ⟨trivial, fun hc => ?_, fun hc => ?_⟩
  · simp [-List.getD_eq_getElem?_getD, -Int.default_eq_zero] at hc
    rw [show widestF l = (0, 0, false) by unfold widestF; rw [if_pos (by simp [hc])]]
    conv => whnf
    refine ⟨?_, [], ?_⟩
    · (try conv => whnf)
      (repeat' (first | exact True.intro | exact fun _ h => h | refine inR64_of ?_ ?_ | apply And.intro | refine maxLen_ge ?_)) <;> (first | omega | (dsimp only; omega) | (dsimp only [List.length_cons, List.length_nil]; omega) | (intro hg; rw [hg]; rfl) | (intro hg hh; rw [hg, hh]; rfl) | (intro hg; simp [-List.getD_eq_getElem?_getD, -Int.default_eq_zero] at hg; first | omega | (refine inR64_of ?_ ?_ <;> omega) | (constructor <;> omega)) | (simp [-List.getD_eq_getElem?_getD, -Int.default_eq_zero]; done))
    conv => whnf
    refine ⟨rfl, ?_, trivial, trivial⟩
    all_goals repeat' (first | exact True.intro | refine leF_cons rfl ?_ ?_ | refine leS_cons rfl ?_ ?_ | (show PLe _ _ _ _; conv => whnf) | (show SLe _ _ _ _; conv => whnf) | (show PLeL _ _ _ _; conv => whnf) | apply And.intro | rfl | exact Nat.le_refl _ | exact fun _ _ => rfl | exact rowEq0 _ _)
  · have hlen : 0 < l.length := by simp [-List.getD_eq_getElem?_getD, -Int.default_eq_zero] at hc; exact List.length_pos_iff.2 hc
    conv => whnf
    refine ⟨trivial, ?_⟩
    refine LSem.loop (n := 34) mix (α := Nat) (fun i => i ≤ l.length)
      (fun i => [(0, .sl τ 2 l.length (fl eBo l)), (5, .int .i64 (best (widF l) i : Nat)), (11, .sl τ 2 l.length (fl eBo l)), (12, .int .i64 l.length), (13, .int .i64 i)])
      (fun i => []) (fun i => l.length - i) 0 ?_ ?_ ?_
    · omega
    · refine ⟨rfl, rfl, ?_, ?_⟩
      all_goals repeat' (first | exact True.intro | refine leF_cons rfl ?_ ?_ | refine leS_cons rfl ?_ ?_ | (show PLe _ _ _ _; conv => whnf) | (show SLe _ _ _ _; conv => whnf) | (show PLeL _ _ _ _; conv => whnf) | apply And.intro | rfl | exact Nat.le_refl _ | exact fun _ _ => rfl | exact rowEq0 _ _)
    · intro i hi
      have hbi : i < l.length → best (widF l) i < l.length := fun h => by
        cases i with
        | zero => exact hlen
        | succ i => have := best_lt (widF l) (i + 1) (by omega); omega
      conv => whnf
      refine ⟨trivial, fun hc => ?_, fun hc => ?_⟩
      · replace hc := dec_iff hc
        simp only [if_true] at hc
        have hlt : i < l.length := by omega
        have hb := hbi hlt
        conv => whnf
        refine ⟨_, fun _ => call34 (l.getD ((i : Int)).toNat default) (hr _ (getD_mem (by omega))), ?_⟩
        conv => whnf
        refine ⟨_, fun _ => call34 (l.getD ((best (widF l) i : Nat) : Int).toNat default) (hr _ (getD_mem (by omega))), ?_⟩
        conv => whnf
        refine ⟨rfl, ?_⟩
        conv => whnf
        refine ⟨?_, fun hc1 => ?_, fun hc1 => ?_⟩
        · (try conv => whnf)
          (repeat' (first | exact True.intro | exact fun _ h => h | refine inR64_of ?_ ?_ | apply And.intro | refine maxLen_ge ?_)) <;> (first | omega | (dsimp only; omega) | (dsimp only [List.length_cons, List.length_nil]; omega) | (intro hg; rw [hg]; rfl) | (intro hg hh; rw [hg, hh]; rfl) | (intro hg; simp [-List.getD_eq_getElem?_getD, -Int.default_eq_zero] at hg; first | omega | (refine inR64_of ?_ ?_ <;> omega) | (constructor <;> omega)) | (simp [-List.getD_eq_getElem?_getD, -Int.default_eq_zero]; done))
        · have hw : best (widF l) (i + 1) = i := if_pos (of_decide_eq_true hc1)
          conv => whnf
          refine ⟨?_, i + 1, ?_, ?_, rfl, rfl, ?_, ?_⟩
          · (try conv => whnf)
            (repeat' (first | exact True.intro | exact fun _ h => h | refine inR64_of ?_ ?_ | apply And.intro | refine maxLen_ge ?_)) <;> (first | omega | (dsimp only; omega) | (dsimp only [List.length_cons, List.length_nil]; omega) | (intro hg; rw [hg]; rfl) | (intro hg hh; rw [hg, hh]; rfl) | (intro hg; simp [-List.getD_eq_getElem?_getD, -Int.default_eq_zero] at hg; first | omega | (refine inR64_of ?_ ?_ <;> omega) | (constructor <;> omega)) | (simp [-List.getD_eq_getElem?_getD, -Int.default_eq_zero]; done))
          · omega
          · omega
          all_goals repeat' (first | exact True.intro | refine leF_cons rfl ?_ ?_ | refine leS_cons rfl ?_ ?_ | (show PLe _ _ _ _; conv => whnf) | (show SLe _ _ _ _; conv => whnf) | (show PLeL _ _ _ _; conv => whnf) | apply And.intro | rfl | exact Nat.le_refl _ | exact fun _ _ => rfl | exact rowEq0 _ _)
          all_goals rw [hw]
        · have hw : best (widF l) (i + 1) = best (widF l) i := if_neg (of_decide_eq_false hc1)
          conv => whnf
          refine ⟨?_, i + 1, ?_, ?_, rfl, rfl, ?_, ?_⟩
          · (try conv => whnf)
            (repeat' (first | exact True.intro | exact fun _ h => h | refine inR64_of ?_ ?_ | apply And.intro | refine maxLen_ge ?_)) <;> (first | omega | (dsimp only; omega) | (dsimp only [List.length_cons, List.length_nil]; omega) | (intro hg; rw [hg]; rfl) | (intro hg hh; rw [hg, hh]; rfl) | (intro hg; simp [-List.getD_eq_getElem?_getD, -Int.default_eq_zero] at hg; first | omega | (refine inR64_of ?_ ?_ <;> omega) | (constructor <;> omega)) | (simp [-List.getD_eq_getElem?_getD, -Int.default_eq_zero]; done))
          · omega
          · omega
          all_goals repeat' (first | exact True.intro | refine leF_cons rfl ?_ ?_ | refine leS_cons rfl ?_ ?_ | (show PLe _ _ _ _; conv => whnf) | (show SLe _ _ _ _; conv => whnf) | (show PLeL _ _ _ _; conv => whnf) | apply And.intro | rfl | exact Nat.le_refl _ | exact fun _ _ => rfl | exact rowEq0 _ _)
          all_goals rw [hw]
      · replace hc := dec_iff hc
        simp only [Bool.false_eq_true, if_false] at hc
        have hil : i = l.length := by omega
        subst hil
        have hb := best_lt (widF l) l.length hlen
        rw [show widestF l = (((best (widF l) l.length : Nat) : Int), widF l (best (widF l) l.length), true) by unfold widestF; rw [if_neg (by omega)]]
        conv => whnf
        refine ⟨_, fun _ => call34 (l.getD ((best (widF l) l.length : Nat) : Int).toNat default) (hr _ (getD_mem (by omega))), ?_⟩
        conv => whnf
        refine ⟨?_, [], ?_⟩
        · (try conv => whnf)
          (repeat' (first | exact True.intro | exact fun _ h => h | refine inR64_of ?_ ?_ | apply And.intro | refine maxLen_ge ?_)) <;> (first | omega | (dsimp only; omega) | (dsimp only [List.length_cons, List.length_nil]; omega) | (intro hg; rw [hg]; rfl) | (intro hg hh; rw [hg, hh]; rfl) | (intro hg; simp [-List.getD_eq_getElem?_getD, -Int.default_eq_zero] at hg; first | omega | (refine inR64_of ?_ ?_ <;> omega) | (constructor <;> omega)) | (simp [-List.getD_eq_getElem?_getD, -Int.default_eq_zero]; done))
        conv => whnf
        refine ⟨rfl, ?_, trivial, trivial⟩
        all_goals repeat' (first | exact True.intro | refine leF_cons rfl ?_ ?_ | refine leS_cons rfl ?_ ?_ | (show PLe _ _ _ _; conv => whnf) | (show SLe _ _ _ _; conv => whnf) | (show PLeL _ _ _ _; conv => whnf) | apply And.intro | rfl | exact Nat.le_refl _ | exact fun _ _ => rfl | exact rowEq0 _ _)

theorem call28 (τ : Nat) (l : List Bo) (hl : l.length ≤ 1000) (hr : ∀ b ∈ l, InB b) : PureCall Try.prog 28 [.sl τ 2 l.length (fl eBo l)] [] ⟨pvWd (widestF l), [], []⟩ := by
  refine pure_call mix Try.func28 fits28 rfl ?_
  conv => whnf
  refine ⟨trivial, fun hc => ?_, fun hc => ?_⟩
  · simp [-List.getD_eq_getElem?_getD, -Int.default_eq_zero] at hc
    rw [show widestF l = (0, 0, false) by unfold widestF; rw [if_pos (by simp [hc])]]
    conv => whnf
    refine ⟨?_, [], ?_⟩
    · (try conv => whnf)
      (repeat' (first | exact True.intro | exact fun _ h => h | refine inR64_of ?_ ?_ | apply And.intro | refine maxLen_ge ?_)) <;> (first | omega | (dsimp only; omega) | (dsimp only [List.length_cons, List.length_nil]; omega) | (intro hg; rw [hg]; rfl) | (intro hg hh; rw [hg, hh]; rfl) | (intro hg; simp [-List.getD_eq_getElem?_getD, -Int.default_eq_zero] at hg; first | omega | (refine inR64_of ?_ ?_ <;> omega) | (constructor <;> omega)) | (simp [-List.getD_eq_getElem?_getD, -Int.default_eq_zero]; done))
    conv => whnf
    refine ⟨rfl, ?_, trivial, trivial⟩
    all_goals repeat' (first | exact True.intro | refine leF_cons rfl ?_ ?_ | refine leS_cons rfl ?_ ?_ | (show PLe _ _ _ _; conv => whnf) | (show SLe _ _ _ _; conv => whnf) | (show PLeL _ _ _ _; conv => whnf) | apply And.intro | rfl | exact Nat.le_refl _ | exact fun _ _ => rfl | exact rowEq0 _ _)
  · have hlen : 0 < l.length := by simp [-List.getD_eq_getElem?_getD, -Int.default_eq_zero] at hc; exact List.length_pos_iff.2 hc
    conv => whnf
    refine ⟨trivial, ?_⟩
    refine LSem.loop (n := 34) mix (α := Nat) (fun i => i ≤ l.length)
      (fun i => [(0, .sl τ 2 l.length (fl eBo l)), (5, .int .i64 (best (widF l) i : Nat)), (10, .sl τ 2 l.length (fl eBo l)), (11, .int .i64 l.length), (12, .int .i64 i)])
      (fun i => []) (fun i => l.length - i) 0 ?_ ?_ ?_
    · omega
    · refine ⟨rfl, rfl, ?_, ?_⟩
      all_goals repeat' (first | exact True.intro | refine leF_cons rfl ?_ ?_ | refine leS_cons rfl ?_ ?_ | (show PLe _ _ _ _; conv => whnf) | (show SLe _ _ _ _; conv => whnf) | (show PLeL _ _ _ _; conv => whnf) | apply And.intro | rfl | exact Nat.le_refl _ | exact fun _ _ => rfl | exact rowEq0 _ _)
    · intro i hi
      have hbi : i < l.length → best (widF l) i < l.length := fun h => by
        cases i with
        | zero => exact hlen
        | succ i => have := best_lt (widF l) (i + 1) (by omega); omega
      conv => whnf
      refine ⟨trivial, fun hc => ?_, fun hc => ?_⟩
      · replace hc := dec_iff hc
        simp only [if_true] at hc
        have hlt : i < l.length := by omega
        have hb := hbi hlt
        conv => whnf
        refine ⟨_, fun _ => call35 (l.getD ((i : Int)).toNat default) (hr _ (getD_mem (by omega))), ?_⟩
        conv => whnf
        refine ⟨_, fun _ => call35 (l.getD ((best (widF l) i : Nat) : Int).toNat default) (hr _ (getD_mem (by omega))), ?_⟩
        conv => whnf
        refine ⟨rfl, ?_⟩
        conv => whnf
        refine ⟨?_, fun hc1 => ?_, fun hc1 => ?_⟩
        · (try conv => whnf)
          (repeat' (first | exact True.intro | exact fun _ h => h | refine inR64_of ?_ ?_ | apply And.intro | refine maxLen_ge ?_)) <;> (first | omega | (dsimp only; omega) | (dsimp only [List.length_cons, List.length_nil]; omega) | (intro hg; rw [hg]; rfl) | (intro hg hh; rw [hg, hh]; rfl) | (intro hg; simp [-List.getD_eq_getElem?_getD, -Int.default_eq_zero] at hg; first | omega | (refine inR64_of ?_ ?_ <;> omega) | (constructor <;> omega)) | (simp [-List.getD_eq_getElem?_getD, -Int.default_eq_zero]; done))
        · have hw : best (widF l) (i + 1) = i := if_pos (of_decide_eq_true hc1)
          conv => whnf
          refine ⟨?_, i + 1, ?_, ?_, rfl, rfl, ?_, ?_⟩
          · (try conv => whnf)
            (repeat' (first | exact True.intro | exact fun _ h => h | refine inR64_of ?_ ?_ | apply And.intro | refine maxLen_ge ?_)) <;> (first | omega | (dsimp only; omega) | (dsimp only [List.length_cons, List.length_nil]; omega) | (intro hg; rw [hg]; rfl) | (intro hg hh; rw [hg, hh]; rfl) | (intro hg; simp [-List.getD_eq_getElem?_getD, -Int.default_eq_zero] at hg; first | omega | (refine inR64_of ?_ ?_ <;> omega) | (constructor <;> omega)) | (simp [-List.getD_eq_getElem?_getD, -Int.default_eq_zero]; done))
          · omega
          · omega
          all_goals repeat' (first | exact True.intro | refine leF_cons rfl ?_ ?_ | refine leS_cons rfl ?_ ?_ | (show PLe _ _ _ _; conv => whnf) | (show SLe _ _ _ _; conv => whnf) | (show PLeL _ _ _ _; conv => whnf) | apply And.intro | rfl | exact Nat.le_refl _ | exact fun _ _ => rfl | exact rowEq0 _ _)
          all_goals rw [hw]
        · have hw : best (widF l) (i + 1) = best (widF l) i := if_neg (of_decide_eq_false hc1)
          conv => whnf
          refine ⟨?_, i + 1, ?_, ?_, rfl, rfl, ?_, ?_⟩
          · (try conv => whnf)
            (repeat' (first | exact True.intro | exact fun _ h => h | refine inR64_of ?_ ?_ | apply And.intro | refine maxLen_ge ?_)) <;> (first | omega | (dsimp only; omega) | (dsimp only [List.length_cons, List.length_nil]; omega) | (intro hg; rw [hg]; rfl) | (intro hg hh; rw [hg, hh]; rfl) | (intro hg; simp [-List.getD_eq_getElem?_getD, -Int.default_eq_zero] at hg; first | omega | (refine inR64_of ?_ ?_ <;> omega) | (constructor <;> omega)) | (simp [-List.getD_eq_getElem?_getD, -Int.default_eq_zero]; done))
          · omega
          · omega
          all_goals repeat' (first | exact True.intro | refine leF_cons rfl ?_ ?_ | refine leS_cons rfl ?_ ?_ | (show PLe _ _ _ _; conv => whnf) | (show SLe _ _ _ _; conv => whnf) | (show PLeL _ _ _ _; conv => whnf) | apply And.intro | rfl | exact Nat.le_refl _ | exact fun _ _ => rfl | exact rowEq0 _ _)
          all_goals rw [hw]
      · replace hc := dec_iff hc
        simp only [Bool.false_eq_true, if_false] at hc
        have hil : i = l.length := by omega
        subst hil
        have hb := best_lt (widF l) l.length hlen
        rw [show widestF l = (((best (widF l) l.length : Nat) : Int), widF l (best (widF l) l.length), true) by unfold widestF; rw [if_neg (by omega)]]
        conv => whnf
        refine ⟨_, fun _ => call35 (l.getD ((best (widF l) l.length : Nat) : Int).toNat default) (hr _ (getD_mem (by omega))), ?_⟩
        conv => whnf
        refine ⟨?_, [], ?_⟩
        · (try conv => whnf)
          (repeat' (first | exact True.intro | exact fun _ h => h | refine inR64_of ?_ ?_ | apply And.intro | refine maxLen_ge ?_)) <;> (first | omega | (dsimp only; omega) | (dsimp only [List.length_cons, List.length_nil]; omega) | (intro hg; rw [hg]; rfl) | (intro hg hh; rw [hg, hh]; rfl) | (intro hg; simp [-List.getD_eq_getElem?_getD, -Int.default_eq_zero] at hg; first | omega | (refine inR64_of ?_ ?_ <;> omega) | (constructor <;> omega)) | (simp [-List.getD_eq_getElem?_getD, -Int.default_eq_zero]; done))
        conv => whnf
        refine ⟨rfl, ?_, trivial, trivial⟩
        all_goals repeat' (first | exact True.intro | refine leF_cons rfl ?_ ?_ | refine leS_cons rfl ?_ ?_ | (show PLe _ _ _ _; conv => whnf) | (show SLe _ _ _ _; conv => whnf) | (show PLeL _ _ _ _; conv => whnf) | apply And.intro | rfl | exact Nat.le_refl _ | exact fun _ _ => rfl | exact rowEq0 _ _)

/-! ### Same -/
def difAt (a b : List Bo) (i : Nat) : Int := if a.getD i default ≠ b.getD i default then 1 else 0
theorem same_iff {a b : List Bo} (h : a.length = b.length) : scan (difAt a b) 0 a.length = 0 ↔ a = b := by
  constructor
  · intro hs
    refine List.ext_getElem h fun i h1 h2 => ?_
    have := scan_zero hs i (by omega) (by omega)
    unfold difAt at this
    split at this
    · omega
    · rename_i hn
      simpa [List.getD_eq_getElem?_getD, h1, h2] using hn
  · rintro rfl
    have : ∀ (n i : Nat), scan (difAt a a) i n = 0 := by
      intro n
      induction n with
      | zero => intro i; rfl
      | succ n ih => intro i; rw [scan_step (by omega) (by simp [difAt])]; exact ih _
    exact this _ _
def sameF (a b : List Bo) : Bool := decide (a = b)
theorem fits22 : fits Try.prog false Try.f22 2 26 [(4, none)] = some c22.er := by kernel_rfl

theorem call22 (τ τ' : Nat) (a b : List Bo) (hl : a.length ≤ 1000) : PureCall Try.prog 22 [.sl τ 2 a.length (fl eBo a), .sl τ' 2 b.length (fl eBo b)] [] ⟨.bool (sameF a b), [], []⟩ := by
  refine pure_call mix Try.func22 fits22 rfl ?_
  conv => whnf
  refine ⟨trivial, fun hc => ?_, fun hc => ?_⟩
  · simp [-List.getD_eq_getElem?_getD, -Int.default_eq_zero] at hc
    rw [show sameF a b = false from decide_eq_false (fun h => by rw [h] at hc; omega)]
    conv => whnf
    refine ⟨?_, [], ?_⟩
    · (try conv => whnf)
      (repeat' (first | exact True.intro | exact fun _ h => h | refine inR64_of ?_ ?_ | apply And.intro | refine maxLen_ge ?_)) <;> (first | omega | (dsimp only; omega) | (dsimp only [List.length_cons, List.length_nil]; omega) | (intro hg; rw [hg]; rfl) | (intro hg hh; rw [hg, hh]; rfl) | (intro hg; simp [-List.getD_eq_getElem?_getD, -Int.default_eq_zero] at hg; first | omega | (refine inR64_of ?_ ?_ <;> omega) | (constructor <;> omega)) | (simp [-List.getD_eq_getElem?_getD, -Int.default_eq_zero]; done))
    conv => whnf
    refine ⟨rfl, ?_, trivial, trivial⟩
    all_goals repeat' (first | exact True.intro | refine leF_cons rfl ?_ ?_ | refine leS_cons rfl ?_ ?_ | (show PLe _ _ _ _; conv => whnf) | (show SLe _ _ _ _; conv => whnf) | (show PLeL _ _ _ _; conv => whnf) | apply And.intro | rfl | exact Nat.le_refl _ | exact fun _ _ => rfl | exact rowEq0 _ _)
  · have hlen : a.length = b.length := by simp [-List.getD_eq_getElem?_getD, -Int.default_eq_zero] at hc; omega
    conv => whnf
    refine ⟨trivial, ?_⟩
    refine LSem.loop (n := 26) mix (α := Nat) (fun i => i ≤ a.length ∧ scan (difAt a b) 0 a.length = scan (difAt a b) i (a.length - i))
      (fun i => [(0, .sl τ 2 a.length (fl eBo a)), (1, .sl τ' 2 b.length (fl eBo b)), (11, .sl τ 2 a.length (fl eBo a)), (12, .int .i64 a.length), (13, .int .i64 i)])
      (fun i => []) (fun i => a.length - i) 0 ?_ ?_ ?_
    · exact ⟨by omega, rfl⟩
    · refine ⟨rfl, rfl, ?_, ?_⟩
      all_goals repeat' (first | exact True.intro | refine leF_cons rfl ?_ ?_ | refine leS_cons rfl ?_ ?_ | (show PLe _ _ _ _; conv => whnf) | (show SLe _ _ _ _; conv => whnf) | (show PLeL _ _ _ _; conv => whnf) | apply And.intro | rfl | exact Nat.le_refl _ | exact fun _ _ => rfl | exact rowEq0 _ _)
    · intro i hx
      obtain ⟨hi, hsc⟩ := hx
      have hj' : ((i : Int)).toNat = i := by omega
      conv => whnf
      refine ⟨trivial, fun hc => ?_, fun hc => ?_⟩
      · replace hc := dec_iff hc
        simp only [if_true] at hc
        have hlt : i < a.length := by omega
        conv => whnf
        refine ⟨rfl, ?_⟩
        conv => whnf
        refine ⟨?_, fun hc1 => ?_, fun hc1 => ?_⟩
        · (try conv => whnf)
          (repeat' (first | exact True.intro | exact fun _ h => h | refine inR64_of ?_ ?_ | apply And.intro | refine maxLen_ge ?_)) <;> (first | omega | (dsimp only; omega) | (dsimp only [List.length_cons, List.length_nil]; omega) | (intro hg; rw [hg]; rfl) | (intro hg hh; rw [hg, hh]; rfl) | (intro hg; simp [-List.getD_eq_getElem?_getD, -Int.default_eq_zero] at hg; first | omega | (refine inR64_of ?_ ?_ <;> omega) | (constructor <;> omega)) | (simp [-List.getD_eq_getElem?_getD, -Int.default_eq_zero]; done))
        · have hw : difAt a b i = 1 := by
            rw [hj'] at hc1
            unfold difAt
            rw [if_pos]
            intro he
            rw [he] at hc1
            simp at hc1
          have hne : a ≠ b := fun he => by
            have := (same_iff hlen).2 he
            rw [hsc, scan_hit (by omega) (by rw [hw]; decide), hw] at this; omega
          rw [show sameF a b = false from decide_eq_false hne]
          conv => whnf
          refine ⟨?_, [], ?_⟩
          · (try conv => whnf)
            (repeat' (first | exact True.intro | exact fun _ h => h | refine inR64_of ?_ ?_ | apply And.intro | refine maxLen_ge ?_)) <;> (first | omega | (dsimp only; omega) | (dsimp only [List.length_cons, List.length_nil]; omega) | (intro hg; rw [hg]; rfl) | (intro hg hh; rw [hg, hh]; rfl) | (intro hg; simp [-List.getD_eq_getElem?_getD, -Int.default_eq_zero] at hg; first | omega | (refine inR64_of ?_ ?_ <;> omega) | (constructor <;> omega)) | (simp [-List.getD_eq_getElem?_getD, -Int.default_eq_zero]; done))
          conv => whnf
          refine ⟨rfl, ?_, trivial, trivial⟩
          all_goals repeat' (first | exact True.intro | refine leF_cons rfl ?_ ?_ | refine leS_cons rfl ?_ ?_ | (show PLe _ _ _ _; conv => whnf) | (show SLe _ _ _ _; conv => whnf) | (show PLeL _ _ _ _; conv => whnf) | apply And.intro | rfl | exact Nat.le_refl _ | exact fun _ _ => rfl | exact rowEq0 _ _)
        · have hw : difAt a b i = 0 := by
            rw [hj'] at hc1
            simp [-List.getD_eq_getElem?_getD, -Int.default_eq_zero] at hc1
            unfold difAt
            rw [if_neg]
            intro hne
            refine hne ?_
            cases ha : a.getD i default
            cases hb : b.getD i default
            rw [ha, hb] at hc1
            simp at hc1
            simp [hc1]
          conv => whnf
          refine ⟨?_, i + 1, ⟨?_, ?_⟩, ?_, rfl, rfl, ?_, ?_⟩
          · (try conv => whnf)
            (repeat' (first | exact True.intro | exact fun _ h => h | refine inR64_of ?_ ?_ | apply And.intro | refine maxLen_ge ?_)) <;> (first | omega | (dsimp only; omega) | (dsimp only [List.length_cons, List.length_nil]; omega) | (intro hg; rw [hg]; rfl) | (intro hg hh; rw [hg, hh]; rfl) | (intro hg; simp [-List.getD_eq_getElem?_getD, -Int.default_eq_zero] at hg; first | omega | (refine inR64_of ?_ ?_ <;> omega) | (constructor <;> omega)) | (simp [-List.getD_eq_getElem?_getD, -Int.default_eq_zero]; done))
          · omega
          · rw [hsc, scan_step (by omega) hw]
            congr 1
          · omega
          all_goals repeat' (first | exact True.intro | refine leF_cons rfl ?_ ?_ | refine leS_cons rfl ?_ ?_ | (show PLe _ _ _ _; conv => whnf) | (show SLe _ _ _ _; conv => whnf) | (show PLeL _ _ _ _; conv => whnf) | apply And.intro | rfl | exact Nat.le_refl _ | exact fun _ _ => rfl | exact rowEq0 _ _)
      · replace hc := dec_iff hc
        simp only [Bool.false_eq_true, if_false] at hc
        have he : a = b := (same_iff hlen).1 (by rw [hsc, show a.length - i = 0 from by omega]; rfl)
        rw [show sameF a b = true from decide_eq_true he]
        conv => whnf
        refine ⟨?_, [], ?_⟩
        · (try conv => whnf)
          (repeat' (first | exact True.intro | exact fun _ h => h | refine inR64_of ?_ ?_ | apply And.intro | refine maxLen_ge ?_)) <;> (first | omega | (dsimp only; omega) | (dsimp only [List.length_cons, List.length_nil]; omega) | (intro hg; rw [hg]; rfl) | (intro hg hh; rw [hg, hh]; rfl) | (intro hg; simp [-List.getD_eq_getElem?_getD, -Int.default_eq_zero] at hg; first | omega | (refine inR64_of ?_ ?_ <;> omega) | (constructor <;> omega)) | (simp [-List.getD_eq_getElem?_getD, -Int.default_eq_zero]; done))
        conv => whnf
        refine ⟨rfl, ?_, trivial, trivial⟩
        all_goals repeat' (first | exact True.intro | refine leF_cons rfl ?_ ?_ | refine leS_cons rfl ?_ ?_ | (show PLe _ _ _ _; conv => whnf) | (show SLe _ _ _ _; conv => whnf) | (show PLeL _ _ _ _; conv => whnf) | apply And.intro | rfl | exact Nat.le_refl _ | exact fun _ _ => rfl | exact rowEq0 _ _)

end Pv
end Go.Proofs.Ytiknpkadlckmjaa
