/- LAW 08, THE WALKS: checks and readings that are made. -/
import Derived.Test.YtogoplhikmmggaaQ12
set_option linter.unusedSimpArgs false
set_option linter.unusedVariables false
namespace Go.Proofs.Ytogoplhikmmggaa
namespace Pv
def c23 : C := (.seq (.reg [⟨(some 2), 32, none, .al [(.int .i64 0), (.int .i64 0), (.int .i64 0), (.int .i64 0)]⟩])
  (.seq (.reg [⟨(some 5), 80, none, .mv (.t 0)⟩,
    ⟨(some 6), 96, none, .call (.c (.fn (.func 18) [] [])) [(.t 5), (.c (.int .i64 30))]⟩,
    ⟨(some 3), 48, none, .mv (.t 6)⟩])
  (.seq (.reg [⟨(some 7), 112, none, .mv (.t 3)⟩,
    ⟨(some 8), 128, none, .mv (.t 3)⟩,
    ⟨(some 9), 144, none, .mv (.t 0)⟩,
    ⟨(some 10), 160, none, .call (.c (.fn (.func 18) [] [])) [(.t 9), (.c (.int .i64 150))]⟩,
    ⟨(some 11), 176, none, .bi false .add (.t 8) (.t 10)⟩,
    ⟨(some 12), 192, none, .mv (.t 0)⟩,
    ⟨(some 13), 208, none, .call (.c (.fn (.func 18) [] [])) [(.t 12), (.c (.int .i64 30))]⟩,
    ⟨(some 14), 224, none, .mv (.t 0)⟩,
    ⟨(some 15), 240, none, .call (.c (.fn (.func 18) [] [])) [(.t 14), (.c (.int .i64 5))]⟩,
    ⟨(some 16), 256, none, .bd [(.int .i64 0), (.int .i64 0), (.int .i64 0), (.int .i64 0)] [(0, 1, (.t 7)), (1, 1, (.t 11)), (2, 1, (.t 13)), (3, 1, (.t 15))]⟩,
    ⟨(some 4), 64, none, .al [(.int .i64 0), (.int .i64 0), (.int .i64 0), (.int .i64 0)]⟩,
    ⟨none, 0, none, .st 4 (.t 4) (.t 16)⟩])
  (.seq (.seq (.reg [⟨(some 17), 272, none, .fa 3 (.t 4)⟩,
    ⟨(some 18), 288, none, .ld 1 false (.t 17)⟩,
    ⟨(some 19), 304, none, .bi false .eql (.t 18) (.c (.int .i64 1))⟩])
  (.cond (.t 19) (.reg [⟨(some 20), 320, none, .fa 3 (.t 4)⟩,
    ⟨none, 0, none, .st 1 (.t 20) (.c (.int .i64 0))⟩]) .skip))
  (.seq (.reg [⟨(some 21), 336, none, .ld 4 true (.t 4)⟩,
    ⟨none, 0, none, .st 4 (.t 2) (.t 21)⟩])
  .ret)))))
theorem fits23 : fits Try.prog false Try.f23 1 22 [(2, some (4, true))] = some c23.er := by kernel_rfl
def c24L1 : C := (.seq (.seq (.reg [⟨(some 9), 144, none, .mv (.t 7)⟩,
    ⟨(some 10), 160, none, .mv (.t 1)⟩,
    ⟨(some 11), 176, none, .bi false .lss (.t 9) (.t 10)⟩])
  (.cond (.t 11) .skip (.exit 0)))
  (.seq (.block 1 (.seq (.seq (.reg [⟨(some 14), 224, none, .mv (.t 0)⟩,
    ⟨(some 15), 240, none, .call (.c (.fn (.func 18) [] [])) [(.t 14), (.c (.int .i64 6))]⟩])
  (.block 2 (.seq (.reg [⟨(some 17), 272, none, .bi false .eql (.t 15) (.c (.int .i64 0))⟩,
    ⟨(some 16), 256, none, .mv (.t 17)⟩])
  (.cond (.t 16) (.reg [⟨(some 18), 288, none, .mv (.t 0)⟩,
    ⟨(some 19), 304, none, .call (.c (.fn (.func 18) [] [])) [(.t 18), (.c (.int .i64 120))]⟩,
    ⟨(some 6), 96, none, .mv (.t 19)⟩]) (.seq (.seq (.reg [⟨(some 21), 336, none, .bi false .eql (.t 15) (.c (.int .i64 1))⟩,
    ⟨(some 20), 320, none, .mv (.t 21)⟩])
  (.cond (.t 20) .skip (.reg [⟨(some 22), 352, none, .bi false .eql (.t 15) (.c (.int .i64 2))⟩,
    ⟨(some 20), 320, none, .mv (.t 22)⟩])))
  (.cond (.t 20) (.reg [⟨(some 23), 368, none, .mv (.t 6)⟩,
    ⟨(some 24), 384, none, .mv (.t 0)⟩,
    ⟨(some 25), 400, none, .call (.c (.fn (.func 18) [] [])) [(.t 24), (.c (.int .i64 5))]⟩,
    ⟨(some 26), 416, none, .bi false .add (.t 23) (.t 25)⟩,
    ⟨(some 6), 96, none, .mv (.t 26)⟩]) .skip))))))
  (.seq (.reg [⟨(some 27), 432, none, .mv (.t 7)⟩,
    ⟨(some 28), 448, none, .mv (.t 6)⟩,
    ⟨(some 29), 464, none, .bd [(.int .i64 0), (.int .i64 0), (.int .i64 0), (.int .i64 0)] [(1, 1, (.t 27)), (2, 1, (.t 28))]⟩,
    ⟨(some 8), 128, none, .al [(.int .i64 0), (.int .i64 0), (.int .i64 0), (.int .i64 0)]⟩,
    ⟨none, 0, none, .st 4 (.t 8) (.t 29)⟩])
  (.seq (.seq (.reg [⟨(some 30), 480, none, .mv (.t 0)⟩,
    ⟨(some 31), 496, none, .call (.c (.fn (.func 18) [] [])) [(.t 30), (.c (.int .i64 9))]⟩,
    ⟨(some 32), 512, none, .bi false .eql (.t 31) (.c (.int .i64 8))⟩])
  (.cond (.t 32) (.reg [⟨(some 33), 528, none, .fa 3 (.t 8)⟩,
    ⟨none, 0, none, .st 1 (.t 33) (.c (.int .i64 2))⟩]) .skip))
  (.reg [⟨(some 34), 544, none, .mv (.t 5)⟩,
    ⟨(some 35), 560, none, .ld 4 true (.t 8)⟩,
    ⟨(some 36), 576, none, .bs 48 4 [(.t 35)]⟩,
    ⟨(some 37), 592, none, .app 48 4 32 (.t 34) (.t 36)⟩,
    ⟨(some 5), 80, none, .mv (.t 37)⟩])))))
  (.reg [⟨(some 12), 192, none, .mv (.t 7)⟩,
    ⟨(some 13), 208, none, .bi false .add (.t 12) (.c (.int .i64 1))⟩,
    ⟨(some 7), 112, none, .mv (.t 13)⟩])))
def c24 : C := (.seq (.reg [⟨(some 4), 64, none, .mv (.c (.nil 4))⟩])
  (.seq (.reg [⟨(some 5), 80, none, .mv (.c (.nil 4))⟩])
  (.seq (.reg [⟨(some 6), 96, none, .mv (.c (.int .i64 50))⟩])
  (.seq (.seq (.reg [⟨(some 7), 112, none, .mv (.c (.int .i64 0))⟩])
  (.block 0 (.loop c24L1)))
  (.seq (.reg [⟨(some 38), 608, none, .mv (.t 5)⟩,
    ⟨(some 4), 64, none, .mv (.t 38)⟩])
  .ret)))))
theorem fits24 : fits Try.prog false Try.f24 2 39 [(4, none)] = some c24.er := by kernel_rfl

def mkCk (d : Dk) : Ck := ⟨nxt d 30, nxt d 30 + nxt (nxtD d 30) 150, nxt (nxtD (nxtD d 30) 150) 30, if nxt (nxtD (nxtD (nxtD d 30) 150) 30) 5 = 1 then 0 else nxt (nxtD (nxtD (nxtD d 30) 150) 30) 5⟩
def mkCkD (d : Dk) : Dk := nxtD (nxtD (nxtD (nxtD d 30) 150) 30) 5
set_option maxHeartbeats 4000000 in
theorem call23 (d : Dk) (hd : d.at_ ≤ 1000000) : PureCall Try.prog 23 [.pt 0 0 0] [.box (eDk 1 d)] ⟨.agg (eCk (mkCk d)), [.box (eDk 1 (mkCkD d))], []⟩ := by
  unfold mkCk mkCkD
  refine pure_call mix Try.func23 fits23 rfl ?_
  conv => whnf
  have r1 := nxt_lt d (n := 30) (by omega)
  have a1 := nxtD_at d 30
  refine ⟨_, fun _ => call_next 1 d 30 (by omega) (by omega), ?_⟩
  conv => whnf
  have r2 := nxt_lt (nxtD d 30) (n := 150) (by omega)
  have a2 := nxtD_at (nxtD d 30) 150
  refine ⟨_, fun _ => call_next 1 (nxtD d 30) 150 (by omega) (by omega), ?_⟩
  conv => whnf
  have r3 := nxt_lt (nxtD (nxtD d 30) 150) (n := 30) (by omega)
  have a3 := nxtD_at (nxtD (nxtD d 30) 150) 30
  refine ⟨_, fun _ => call_next 1 (nxtD (nxtD d 30) 150) 30 (by omega) (by omega), ?_⟩
  conv => whnf
  have r4 := nxt_lt (nxtD (nxtD (nxtD d 30) 150) 30) (n := 5) (by omega)
  refine ⟨_, fun _ => call_next 1 (nxtD (nxtD (nxtD d 30) 150) 30) 5 (by omega) (by omega), ?_⟩
  generalize nxt (nxtD (nxtD (nxtD d 30) 150) 30) 5 = s at r4 ⊢
  generalize nxtD (nxtD (nxtD (nxtD d 30) 150) 30) 5 = d'
  conv => whnf
  refine ⟨?_, fun hc => ?_, fun hc => ?_⟩
  · (try conv => whnf)
    (repeat' (first | exact True.intro | exact fun _ h => h | refine inR64_of ?_ ?_ | apply And.intro | refine maxLen_ge ?_)) <;> (first | omega | (dsimp only; omega) | (dsimp only [List.length_cons, List.length_nil]; omega) | (intro hg; rw [hg]; rfl) | (intro hg hh; rw [hg, hh]; rfl) | (intro hg; simp [-List.getD_eq_getElem?_getD, -Int.default_eq_zero] at hg; first | omega | (refine inR64_of ?_ ?_ <;> omega) | (constructor <;> omega)) | (simp [-List.getD_eq_getElem?_getD, -Int.default_eq_zero]; done))
  · simp only [bif_t, bif_f, decide_eq_true_eq, decide_eq_false_iff_not, Bool.not_eq_true', Bool.not_eq_false', Bool.and_eq_true, Bool.or_eq_true, Bool.and_eq_false_iff, Bool.or_eq_false_iff, beq_iff_eq, bne_iff_ne, beq_eq_false_iff_ne, bne_eq_false_iff_eq, reduceCtorEq, false_and, and_false, true_and, and_true, or_false, false_or, or_true, true_or, not_true_eq_false, not_false_eq_true, Int.toNat_zero] at hc
    rw [if_pos hc]
    conv => whnf
    refine ⟨?_, [], ?_⟩
    · (try conv => whnf)
      (repeat' (first | exact True.intro | exact fun _ h => h | refine inR64_of ?_ ?_ | apply And.intro | refine maxLen_ge ?_)) <;> (first | omega | (dsimp only; omega) | (dsimp only [List.length_cons, List.length_nil]; omega) | (intro hg; rw [hg]; rfl) | (intro hg hh; rw [hg, hh]; rfl) | (intro hg; simp [-List.getD_eq_getElem?_getD, -Int.default_eq_zero] at hg; first | omega | (refine inR64_of ?_ ?_ <;> omega) | (constructor <;> omega)) | (simp [-List.getD_eq_getElem?_getD, -Int.default_eq_zero]; done))
    conv => whnf
    refine ⟨rfl, ?_, ?_, trivial⟩
    all_goals repeat' (first | exact True.intro | refine leF_cons rfl ?_ ?_ | refine leS_cons rfl ?_ ?_ | (show PLe _ _ _ _; conv => whnf) | (show SLe _ _ _ _; conv => whnf) | (show PLeL _ _ _ _; conv => whnf) | apply And.intro | rfl | exact Nat.le_refl _ | exact fun _ _ => rfl | exact rowEq0 _ _)
  · simp only [bif_t, bif_f, decide_eq_true_eq, decide_eq_false_iff_not, Bool.not_eq_true', Bool.not_eq_false', Bool.and_eq_true, Bool.or_eq_true, Bool.and_eq_false_iff, Bool.or_eq_false_iff, beq_iff_eq, bne_iff_ne, beq_eq_false_iff_ne, bne_eq_false_iff_eq, reduceCtorEq, false_and, and_false, true_and, and_true, or_false, false_or, or_true, true_or, not_true_eq_false, not_false_eq_true, Int.toNat_zero] at hc
    rw [if_neg hc]
    conv => whnf
    refine ⟨?_, [], ?_⟩
    · (try conv => whnf)
      (repeat' (first | exact True.intro | exact fun _ h => h | refine inR64_of ?_ ?_ | apply And.intro | refine maxLen_ge ?_)) <;> (first | omega | (dsimp only; omega) | (dsimp only [List.length_cons, List.length_nil]; omega) | (intro hg; rw [hg]; rfl) | (intro hg hh; rw [hg, hh]; rfl) | (intro hg; simp [-List.getD_eq_getElem?_getD, -Int.default_eq_zero] at hg; first | omega | (refine inR64_of ?_ ?_ <;> omega) | (constructor <;> omega)) | (simp [-List.getD_eq_getElem?_getD, -Int.default_eq_zero]; done))
    conv => whnf
    refine ⟨rfl, ?_, ?_, trivial⟩
    all_goals repeat' (first | exact True.intro | refine leF_cons rfl ?_ ?_ | refine leS_cons rfl ?_ ?_ | (show PLe _ _ _ _; conv => whnf) | (show SLe _ _ _ _; conv => whnf) | (show PLeL _ _ _ _; conv => whnf) | apply And.intro | rfl | exact Nat.le_refl _ | exact fun _ _ => rfl | exact rowEq0 _ _)
theorem mkCk_ok (d : Dk) : ckOk (mkCk d) ∧ ckErr (mkCk d) = 0 := by
  have h : ckOk (mkCk d) := by
    unfold ckOk mkCk
    have r1 := nxt_lt d (n := 30) (by omega)
    have r2 := nxt_lt (nxtD d 30) (n := 150) (by omega)
    have r3 := nxt_lt (nxtD (nxtD d 30) 150) (n := 30) (by omega)
    have r4 := nxt_lt (nxtD (nxtD (nxtD d 30) 150) 30) (n := 5) (by omega)
    dsimp only
    split <;> omega
  exact ⟨h, by unfold ckErr; rw [if_pos h]⟩
theorem mkCkD_at (d : Dk) : (mkCkD d).at_ ≤ d.at_ + 4 := by
  unfold mkCkD
  have a1 := nxtD_at d 30
  have a2 := nxtD_at (nxtD d 30) 150
  have a3 := nxtD_at (nxtD (nxtD d 30) 150) 30
  have a4 := nxtD_at (nxtD (nxtD (nxtD d 30) 150) 30) 5
  omega

structure Sst where
  l : List Rd
  v : Int
  d : Dk
def serV (s : Sst) : Int := if nxt s.d 6 = 0 then nxt (nxtD s.d 6) 120 else if nxt s.d 6 = 1 ∨ nxt s.d 6 = 2 then s.v + nxt (nxtD s.d 6) 5 else s.v
def serD (s : Sst) : Dk := if nxt s.d 6 = 0 then nxtD (nxtD s.d 6) 120 else if nxt s.d 6 = 1 ∨ nxt s.d 6 = 2 then nxtD (nxtD s.d 6) 5 else nxtD s.d 6
def serN (s : Sst) : Sst := ⟨s.l ++ [⟨0, s.l.length, serV s, if nxt (serD s) 9 = 8 then 2 else 0⟩], serV s, nxtD (serD s) 9⟩
def serS (d : Dk) : Nat → Sst
  | 0 => ⟨[], 50, d⟩
  | n + 1 => serN (serS d n)
theorem serN_rng {s : Sst} (hv : 0 ≤ s.v ∧ s.v ≤ 120 + 5 * (s.l.length : Int)) : 0 ≤ serV s ∧ serV s ≤ 125 + 5 * (s.l.length : Int) := by
  have r1 := nxt_lt (nxtD s.d 6) (n := 120) (by omega)
  have r2 := nxt_lt (nxtD s.d 6) (n := 5) (by omega)
  unfold serV
  split
  · omega
  · split <;> omega
theorem serD_at (s : Sst) : (serD s).at_ ≤ s.d.at_ + 2 := by
  have a1 := nxtD_at s.d 6
  have a2 := nxtD_at (nxtD s.d 6) 120
  have a3 := nxtD_at (nxtD s.d 6) 5
  unfold serD
  split
  · omega
  · split <;> omega
theorem serS_props (d : Dk) : ∀ n, (serS d n).l.length = n ∧ (0 ≤ (serS d n).v ∧ (serS d n).v ≤ 120 + 5 * (n : Int)) ∧ (serS d n).d.at_ ≤ d.at_ + 3 * n
  | 0 => ⟨rfl, ⟨by show (0 : Int) ≤ 50; omega, by show (50 : Int) ≤ _; omega⟩, Nat.le_refl _⟩
  | n + 1 => by
    obtain ⟨h1, h2, h3⟩ := serS_props d n
    have r := serN_rng (s := serS d n) (by rw [h1]; exact h2)
    have a1 := serD_at (serS d n)
    have a2 := nxtD_at (serD (serS d n)) 9
    rw [h1] at r
    refine ⟨by show (_ ++ [_]).length = _; rw [List.length_append, h1]; rfl, ⟨r.1, ?_⟩, ?_⟩
    · show serV _ ≤ _; omega
    · show (nxtD (serD (serS d n)) 9).at_ ≤ _; omega
/-- A reading that is made is a good one. -/
theorem ser_ok (d : Dk) : ∀ n, n ≤ 1000 → ∀ i, i < n → rdErr ((serS d n).l.getD i default) = 0
  | 0, _, i, hi => by omega
  | n + 1, hn, i, hi => by
    obtain ⟨h1, h2, h3⟩ := serS_props d n
    have r := serN_rng (s := serS d n) (by rw [h1]; exact h2)
    rw [h1] at r
    show rdErr (((serS d n).l ++ [_]).getD i default) = 0
    rw [List.getD_eq_getElem?_getD, List.getElem?_append]
    by_cases h : i < n
    · rw [if_pos (by omega), ← List.getD_eq_getElem?_getD]; exact ser_ok d n (by omega) i h
    · rw [if_neg (by omega), h1, show i - n = 0 by omega]
      show rdErr ⟨0, _, _, _⟩ = 0
      unfold rdErr
      dsimp only
      rw [if_neg (by omega), if_neg (by omega), if_neg (by omega), if_neg (by split <;> omega)]

set_option maxRecDepth 100000 in
set_option maxHeartbeats 8000000 in
theorem call24 (d : Dk) (n : Int) (hd : d.at_ ≤ 1000000) (hn : 0 ≤ n ∧ n ≤ 1000) : PureCall Try.prog 24 [.pt 0 0 0, .int .i64 n] [.box (eDk 1 d)] ⟨.sl 0 4 (serS d n.toNat).l.length (fl eRd (serS d n.toNat).l), [.box (eDk 1 (serS d n.toNat).d)], []⟩ := by
  refine pure_call mix Try.func24 fits24 rfl ?_
  conv => whnf
  refine ⟨trivial, ?_⟩
  refine LSem.adopt 5 1000000 48 4 4 rfl rfl ?_
  refine LSem.loop (n := 39) mix (α := Nat) (fun i => (i : Int) ≤ n)
    (fun i => [(0, .pt 0 0 0), (1, .int .i64 n), (5, .os 1000000), (6, .int .i64 (serS d i).v), (7, .int .i64 i)])
    (fun i => [(0, .box (eDk 1 (serS d i).d)), (1000000, .row 0 48 4 i (fl eRd (serS d i).l))]) (fun i => n.toNat - i) 0 ?_ ?_ ?_
  · show (0 : Int) ≤ n; omega
  · refine ⟨rfl, rfl, ?_, ?_⟩
    all_goals repeat' (first | exact True.intro | refine leF_cons rfl ?_ ?_ | refine leS_cons rfl ?_ ?_ | (show PLe _ _ _ _; conv => whnf) | (show SLe _ _ _ _; conv => whnf) | (show PLeL _ _ _ _; conv => whnf) | apply And.intro | rfl | exact Nat.le_refl _ | exact fun _ _ => rfl | exact rowEq0 _ _)
  · intro i hi
    have hj : ((i : Int)).toNat = i := by omega
    obtain ⟨p1, p2, p3⟩ := serS_props d i
    conv => whnf
    refine ⟨trivial, fun hc => ?_, fun hc => ?_⟩
    · replace hc := of_decide_eq_true hc
      have e0 : serS d (i + 1) = serN (serS d i) := rfl
      have rv := serN_rng (s := serS d i) (by rw [p1]; exact p2)
      have hat := serD_at (serS d i)
      have hps := fl_push eRd (serS d i).l ⟨0, (serS d i).l.length, serV (serS d i), if nxt (serD (serS d i)) 9 = 8 then 2 else 0⟩
      generalize hs : serS d i = s at *
      rw [p1] at hps rv
      have hV : serV s = if nxt s.d 6 = 0 then nxt (nxtD s.d 6) 120 else if nxt s.d 6 = 1 ∨ nxt s.d 6 = 2 then s.v + nxt (nxtD s.d 6) 5 else s.v := rfl
      have hD : serD s = if nxt s.d 6 = 0 then nxtD (nxtD s.d 6) 120 else if nxt s.d 6 = 1 ∨ nxt s.d 6 = 2 then nxtD (nxtD s.d 6) 5 else nxtD s.d 6 := rfl
      have e1 : (serN s).v = serV s := rfl
      have e2 : (serN s).d = nxtD (serD s) 9 := rfl
      have e3 : (serN s).l = s.l ++ [⟨0, s.l.length, serV s, if nxt (serD s) 9 = 8 then 2 else 0⟩] := rfl
      rw [p1] at e3
      rw [← e3] at hps
      have a1 := nxtD_at s.d 6
      have r1 := nxt_lt (nxtD s.d 6) (n := 120) (by omega)
      have r2 := nxt_lt (nxtD s.d 6) (n := 5) (by omega)
      have r9 := nxt_lt (serD s) (n := 9) (by omega)
      have a9 := nxtD_at (serD s) 9
      conv => whnf
      refine ⟨_, fun _ => call_next 1 s.d 6 (by omega) (by omega), ?_⟩
      conv => whnf
      refine ⟨?_, fun h0 => ?_, fun h0 => ?_⟩
      · (try conv => whnf)
        (repeat' (first | exact True.intro | exact fun _ h => h | refine inR64_of ?_ ?_ | apply And.intro | refine maxLen_ge ?_)) <;> (first | omega | (dsimp only; omega) | (dsimp only [List.length_cons, List.length_nil]; omega) | (intro hg; rw [hg]; rfl) | (intro hg hh; rw [hg, hh]; rfl) | (intro hg; simp [-List.getD_eq_getElem?_getD, -Int.default_eq_zero] at hg; first | omega | (refine inR64_of ?_ ?_ <;> omega) | (constructor <;> omega)) | (simp [-List.getD_eq_getElem?_getD, -Int.default_eq_zero]; done))
      · simp only [bif_t, bif_f, decide_eq_true_eq, decide_eq_false_iff_not, Bool.not_eq_true', Bool.not_eq_false', Bool.and_eq_true, Bool.or_eq_true, Bool.and_eq_false_iff, Bool.or_eq_false_iff, beq_iff_eq, bne_iff_ne, beq_eq_false_iff_ne, bne_eq_false_iff_eq, reduceCtorEq, false_and, and_false, true_and, and_true, or_false, false_or, or_true, true_or, not_true_eq_false, not_false_eq_true, Int.toNat_zero] at h0
        rw [if_pos h0] at hV hD
        conv => whnf
        refine ⟨_, fun _ => call_next 1 (nxtD s.d 6) 120 (by omega) (by omega), ?_⟩
        have hat' : (nxtD (nxtD s.d 6) 120).at_ ≤ 1005000 := by rw [← hD]; omega
        conv => whnf
        refine ⟨_, fun _ => call_next 1 (nxtD (nxtD s.d 6) 120) 9 (by omega) (by omega), ?_⟩
        rw [← hD]
        conv => whnf
        refine ⟨?_, fun hf => ?_, fun hf => ?_⟩
        · (try conv => whnf)
          (repeat' (first | exact True.intro | exact fun _ h => h | refine inR64_of ?_ ?_ | apply And.intro | refine maxLen_ge ?_)) <;> (first | omega | (dsimp only; omega) | (dsimp only [List.length_cons, List.length_nil]; omega) | (intro hg; rw [hg]; rfl) | (intro hg hh; rw [hg, hh]; rfl) | (intro hg; simp [-List.getD_eq_getElem?_getD, -Int.default_eq_zero] at hg; first | omega | (refine inR64_of ?_ ?_ <;> omega) | (constructor <;> omega)) | (simp [-List.getD_eq_getElem?_getD, -Int.default_eq_zero]; done))
        · simp only [bif_t, bif_f, decide_eq_true_eq, decide_eq_false_iff_not, Bool.not_eq_true', Bool.not_eq_false', Bool.and_eq_true, Bool.or_eq_true, Bool.and_eq_false_iff, Bool.or_eq_false_iff, beq_iff_eq, bne_iff_ne, beq_eq_false_iff_ne, bne_eq_false_iff_eq, reduceCtorEq, false_and, and_false, true_and, and_true, or_false, false_or, or_true, true_or, not_true_eq_false, not_false_eq_true, Int.toNat_zero] at hf
          rw [if_pos hf] at e3 hps
          conv => whnf
          refine ⟨?_, i + 1, (by omega : ((i + 1 : Nat) : Int) ≤ n), ?_, rfl, rfl, ?_, ?_⟩
          · (try conv => whnf)
            (repeat' (first | exact True.intro | exact fun _ h => h | refine inR64_of ?_ ?_ | apply And.intro | refine maxLen_ge ?_)) <;> (first | omega | (dsimp only; omega) | (dsimp only [List.length_cons, List.length_nil]; omega) | (intro hg; rw [hg]; rfl) | (intro hg hh; rw [hg, hh]; rfl) | (intro hg; simp [-List.getD_eq_getElem?_getD, -Int.default_eq_zero] at hg; first | omega | (refine inR64_of ?_ ?_ <;> omega) | (constructor <;> omega)) | (simp [-List.getD_eq_getElem?_getD, -Int.default_eq_zero]; done))
          · omega
          all_goals repeat' (first | exact True.intro | refine leF_cons rfl ?_ ?_ | refine leS_cons rfl ?_ ?_ | (show PLe _ _ _ _; conv => whnf) | (show SLe _ _ _ _; conv => whnf) | (show PLeL _ _ _ _; conv => whnf) | apply And.intro | rfl | exact Nat.le_refl _ | exact fun _ _ => rfl | exact rowEq0 _ _)
          all_goals (try rw [e0])
          all_goals first | omega | rfl | (rw [e2]; exact fun _ _ => rfl) | (rw [e1, hV]; done) | (rw [← hV]; exact hps) | exact hps | skip
        · simp only [bif_t, bif_f, decide_eq_true_eq, decide_eq_false_iff_not, Bool.not_eq_true', Bool.not_eq_false', Bool.and_eq_true, Bool.or_eq_true, Bool.and_eq_false_iff, Bool.or_eq_false_iff, beq_iff_eq, bne_iff_ne, beq_eq_false_iff_ne, bne_eq_false_iff_eq, reduceCtorEq, false_and, and_false, true_and, and_true, or_false, false_or, or_true, true_or, not_true_eq_false, not_false_eq_true, Int.toNat_zero] at hf
          rw [if_neg hf] at e3 hps
          conv => whnf
          refine ⟨?_, i + 1, (by omega : ((i + 1 : Nat) : Int) ≤ n), ?_, rfl, rfl, ?_, ?_⟩
          · (try conv => whnf)
            (repeat' (first | exact True.intro | exact fun _ h => h | refine inR64_of ?_ ?_ | apply And.intro | refine maxLen_ge ?_)) <;> (first | omega | (dsimp only; omega) | (dsimp only [List.length_cons, List.length_nil]; omega) | (intro hg; rw [hg]; rfl) | (intro hg hh; rw [hg, hh]; rfl) | (intro hg; simp [-List.getD_eq_getElem?_getD, -Int.default_eq_zero] at hg; first | omega | (refine inR64_of ?_ ?_ <;> omega) | (constructor <;> omega)) | (simp [-List.getD_eq_getElem?_getD, -Int.default_eq_zero]; done))
          · omega
          all_goals repeat' (first | exact True.intro | refine leF_cons rfl ?_ ?_ | refine leS_cons rfl ?_ ?_ | (show PLe _ _ _ _; conv => whnf) | (show SLe _ _ _ _; conv => whnf) | (show PLeL _ _ _ _; conv => whnf) | apply And.intro | rfl | exact Nat.le_refl _ | exact fun _ _ => rfl | exact rowEq0 _ _)
          all_goals (try rw [e0])
          all_goals first | omega | rfl | (rw [e2]; exact fun _ _ => rfl) | (rw [e1, hV]; done) | (rw [← hV]; exact hps) | exact hps | skip
      simp only [bif_t, bif_f, decide_eq_true_eq, decide_eq_false_iff_not, Bool.not_eq_true', Bool.not_eq_false', Bool.and_eq_true, Bool.or_eq_true, Bool.and_eq_false_iff, Bool.or_eq_false_iff, beq_iff_eq, bne_iff_ne, beq_eq_false_iff_ne, bne_eq_false_iff_eq, reduceCtorEq, false_and, and_false, true_and, and_true, or_false, false_or, or_true, true_or, not_true_eq_false, not_false_eq_true, Int.toNat_zero] at h0
      rw [if_neg h0] at hV hD
      conv => whnf
      refine ⟨?_, fun h1 => ?_, fun h1 => ?_⟩
      · (try conv => whnf)
        (repeat' (first | exact True.intro | exact fun _ h => h | refine inR64_of ?_ ?_ | apply And.intro | refine maxLen_ge ?_)) <;> (first | omega | (dsimp only; omega) | (dsimp only [List.length_cons, List.length_nil]; omega) | (intro hg; rw [hg]; rfl) | (intro hg hh; rw [hg, hh]; rfl) | (intro hg; simp [-List.getD_eq_getElem?_getD, -Int.default_eq_zero] at hg; first | omega | (refine inR64_of ?_ ?_ <;> omega) | (constructor <;> omega)) | (simp [-List.getD_eq_getElem?_getD, -Int.default_eq_zero]; done))
      · simp only [bif_t, bif_f, decide_eq_true_eq, decide_eq_false_iff_not, Bool.not_eq_true', Bool.not_eq_false', Bool.and_eq_true, Bool.or_eq_true, Bool.and_eq_false_iff, Bool.or_eq_false_iff, beq_iff_eq, bne_iff_ne, beq_eq_false_iff_ne, bne_eq_false_iff_eq, reduceCtorEq, false_and, and_false, true_and, and_true, or_false, false_or, or_true, true_or, not_true_eq_false, not_false_eq_true, Int.toNat_zero] at h1
        rw [if_pos (.inl h1)] at hV hD
        conv => whnf
        refine ⟨trivial, fun _ => ?_, fun h => absurd h (by rw [h1]; decide)⟩
        conv => whnf
        refine ⟨_, fun _ => call_next 1 (nxtD s.d 6) 5 (by omega) (by omega), ?_⟩
        have hat' : (nxtD (nxtD s.d 6) 5).at_ ≤ 1005000 := by rw [← hD]; omega
        conv => whnf
        refine ⟨_, fun _ => call_next 1 (nxtD (nxtD s.d 6) 5) 9 (by omega) (by omega), ?_⟩
        rw [← hD]
        conv => whnf
        refine ⟨?_, fun hf => ?_, fun hf => ?_⟩
        · (try conv => whnf)
          (repeat' (first | exact True.intro | exact fun _ h => h | refine inR64_of ?_ ?_ | apply And.intro | refine maxLen_ge ?_)) <;> (first | omega | (dsimp only; omega) | (dsimp only [List.length_cons, List.length_nil]; omega) | (intro hg; rw [hg]; rfl) | (intro hg hh; rw [hg, hh]; rfl) | (intro hg; simp [-List.getD_eq_getElem?_getD, -Int.default_eq_zero] at hg; first | omega | (refine inR64_of ?_ ?_ <;> omega) | (constructor <;> omega)) | (simp [-List.getD_eq_getElem?_getD, -Int.default_eq_zero]; done))
        · simp only [bif_t, bif_f, decide_eq_true_eq, decide_eq_false_iff_not, Bool.not_eq_true', Bool.not_eq_false', Bool.and_eq_true, Bool.or_eq_true, Bool.and_eq_false_iff, Bool.or_eq_false_iff, beq_iff_eq, bne_iff_ne, beq_eq_false_iff_ne, bne_eq_false_iff_eq, reduceCtorEq, false_and, and_false, true_and, and_true, or_false, false_or, or_true, true_or, not_true_eq_false, not_false_eq_true, Int.toNat_zero] at hf
          rw [if_pos hf] at e3 hps
          conv => whnf
          refine ⟨?_, i + 1, (by omega : ((i + 1 : Nat) : Int) ≤ n), ?_, rfl, rfl, ?_, ?_⟩
          · (try conv => whnf)
            (repeat' (first | exact True.intro | exact fun _ h => h | refine inR64_of ?_ ?_ | apply And.intro | refine maxLen_ge ?_)) <;> (first | omega | (dsimp only; omega) | (dsimp only [List.length_cons, List.length_nil]; omega) | (intro hg; rw [hg]; rfl) | (intro hg hh; rw [hg, hh]; rfl) | (intro hg; simp [-List.getD_eq_getElem?_getD, -Int.default_eq_zero] at hg; first | omega | (refine inR64_of ?_ ?_ <;> omega) | (constructor <;> omega)) | (simp [-List.getD_eq_getElem?_getD, -Int.default_eq_zero]; done))
          · omega
          all_goals repeat' (first | exact True.intro | refine leF_cons rfl ?_ ?_ | refine leS_cons rfl ?_ ?_ | (show PLe _ _ _ _; conv => whnf) | (show SLe _ _ _ _; conv => whnf) | (show PLeL _ _ _ _; conv => whnf) | apply And.intro | rfl | exact Nat.le_refl _ | exact fun _ _ => rfl | exact rowEq0 _ _)
          all_goals (try rw [e0])
          all_goals first | omega | rfl | (rw [e2]; exact fun _ _ => rfl) | (rw [e1, hV]; done) | (rw [← hV]; exact hps) | exact hps | skip
        · simp only [bif_t, bif_f, decide_eq_true_eq, decide_eq_false_iff_not, Bool.not_eq_true', Bool.not_eq_false', Bool.and_eq_true, Bool.or_eq_true, Bool.and_eq_false_iff, Bool.or_eq_false_iff, beq_iff_eq, bne_iff_ne, beq_eq_false_iff_ne, bne_eq_false_iff_eq, reduceCtorEq, false_and, and_false, true_and, and_true, or_false, false_or, or_true, true_or, not_true_eq_false, not_false_eq_true, Int.toNat_zero] at hf
          rw [if_neg hf] at e3 hps
          conv => whnf
          refine ⟨?_, i + 1, (by omega : ((i + 1 : Nat) : Int) ≤ n), ?_, rfl, rfl, ?_, ?_⟩
          · (try conv => whnf)
            (repeat' (first | exact True.intro | exact fun _ h => h | refine inR64_of ?_ ?_ | apply And.intro | refine maxLen_ge ?_)) <;> (first | omega | (dsimp only; omega) | (dsimp only [List.length_cons, List.length_nil]; omega) | (intro hg; rw [hg]; rfl) | (intro hg hh; rw [hg, hh]; rfl) | (intro hg; simp [-List.getD_eq_getElem?_getD, -Int.default_eq_zero] at hg; first | omega | (refine inR64_of ?_ ?_ <;> omega) | (constructor <;> omega)) | (simp [-List.getD_eq_getElem?_getD, -Int.default_eq_zero]; done))
          · omega
          all_goals repeat' (first | exact True.intro | refine leF_cons rfl ?_ ?_ | refine leS_cons rfl ?_ ?_ | (show PLe _ _ _ _; conv => whnf) | (show SLe _ _ _ _; conv => whnf) | (show PLeL _ _ _ _; conv => whnf) | apply And.intro | rfl | exact Nat.le_refl _ | exact fun _ _ => rfl | exact rowEq0 _ _)
          all_goals (try rw [e0])
          all_goals first | omega | rfl | (rw [e2]; exact fun _ _ => rfl) | (rw [e1, hV]; done) | (rw [← hV]; exact hps) | exact hps | skip
      simp only [bif_t, bif_f, decide_eq_true_eq, decide_eq_false_iff_not, Bool.not_eq_true', Bool.not_eq_false', Bool.and_eq_true, Bool.or_eq_true, Bool.and_eq_false_iff, Bool.or_eq_false_iff, beq_iff_eq, bne_iff_ne, beq_eq_false_iff_ne, bne_eq_false_iff_eq, reduceCtorEq, false_and, and_false, true_and, and_true, or_false, false_or, or_true, true_or, not_true_eq_false, not_false_eq_true, Int.toNat_zero] at h1
      conv => whnf
      refine ⟨?_, fun h2 => ?_, fun h2 => ?_⟩
      · (try conv => whnf)
        (repeat' (first | exact True.intro | exact fun _ h => h | refine inR64_of ?_ ?_ | apply And.intro | refine maxLen_ge ?_)) <;> (first | omega | (dsimp only; omega) | (dsimp only [List.length_cons, List.length_nil]; omega) | (intro hg; rw [hg]; rfl) | (intro hg hh; rw [hg, hh]; rfl) | (intro hg; simp [-List.getD_eq_getElem?_getD, -Int.default_eq_zero] at hg; first | omega | (refine inR64_of ?_ ?_ <;> omega) | (constructor <;> omega)) | (simp [-List.getD_eq_getElem?_getD, -Int.default_eq_zero]; done))
      · simp only [bif_t, bif_f, decide_eq_true_eq, decide_eq_false_iff_not, Bool.not_eq_true', Bool.not_eq_false', Bool.and_eq_true, Bool.or_eq_true, Bool.and_eq_false_iff, Bool.or_eq_false_iff, beq_iff_eq, bne_iff_ne, beq_eq_false_iff_ne, bne_eq_false_iff_eq, reduceCtorEq, false_and, and_false, true_and, and_true, or_false, false_or, or_true, true_or, not_true_eq_false, not_false_eq_true, Int.toNat_zero] at h2
        rw [if_pos (.inr h2)] at hV hD
        conv => whnf
        refine ⟨_, fun _ => call_next 1 (nxtD s.d 6) 5 (by omega) (by omega), ?_⟩
        have hat' : (nxtD (nxtD s.d 6) 5).at_ ≤ 1005000 := by rw [← hD]; omega
        conv => whnf
        refine ⟨_, fun _ => call_next 1 (nxtD (nxtD s.d 6) 5) 9 (by omega) (by omega), ?_⟩
        rw [← hD]
        conv => whnf
        refine ⟨?_, fun hf => ?_, fun hf => ?_⟩
        · (try conv => whnf)
          (repeat' (first | exact True.intro | exact fun _ h => h | refine inR64_of ?_ ?_ | apply And.intro | refine maxLen_ge ?_)) <;> (first | omega | (dsimp only; omega) | (dsimp only [List.length_cons, List.length_nil]; omega) | (intro hg; rw [hg]; rfl) | (intro hg hh; rw [hg, hh]; rfl) | (intro hg; simp [-List.getD_eq_getElem?_getD, -Int.default_eq_zero] at hg; first | omega | (refine inR64_of ?_ ?_ <;> omega) | (constructor <;> omega)) | (simp [-List.getD_eq_getElem?_getD, -Int.default_eq_zero]; done))
        · simp only [bif_t, bif_f, decide_eq_true_eq, decide_eq_false_iff_not, Bool.not_eq_true', Bool.not_eq_false', Bool.and_eq_true, Bool.or_eq_true, Bool.and_eq_false_iff, Bool.or_eq_false_iff, beq_iff_eq, bne_iff_ne, beq_eq_false_iff_ne, bne_eq_false_iff_eq, reduceCtorEq, false_and, and_false, true_and, and_true, or_false, false_or, or_true, true_or, not_true_eq_false, not_false_eq_true, Int.toNat_zero] at hf
          rw [if_pos hf] at e3 hps
          conv => whnf
          refine ⟨?_, i + 1, (by omega : ((i + 1 : Nat) : Int) ≤ n), ?_, rfl, rfl, ?_, ?_⟩
          · (try conv => whnf)
            (repeat' (first | exact True.intro | exact fun _ h => h | refine inR64_of ?_ ?_ | apply And.intro | refine maxLen_ge ?_)) <;> (first | omega | (dsimp only; omega) | (dsimp only [List.length_cons, List.length_nil]; omega) | (intro hg; rw [hg]; rfl) | (intro hg hh; rw [hg, hh]; rfl) | (intro hg; simp [-List.getD_eq_getElem?_getD, -Int.default_eq_zero] at hg; first | omega | (refine inR64_of ?_ ?_ <;> omega) | (constructor <;> omega)) | (simp [-List.getD_eq_getElem?_getD, -Int.default_eq_zero]; done))
          · omega
          all_goals repeat' (first | exact True.intro | refine leF_cons rfl ?_ ?_ | refine leS_cons rfl ?_ ?_ | (show PLe _ _ _ _; conv => whnf) | (show SLe _ _ _ _; conv => whnf) | (show PLeL _ _ _ _; conv => whnf) | apply And.intro | rfl | exact Nat.le_refl _ | exact fun _ _ => rfl | exact rowEq0 _ _)
          all_goals (try rw [e0])
          all_goals first | omega | rfl | (rw [e2]; exact fun _ _ => rfl) | (rw [e1, hV]; done) | (rw [← hV]; exact hps) | exact hps | skip
        · simp only [bif_t, bif_f, decide_eq_true_eq, decide_eq_false_iff_not, Bool.not_eq_true', Bool.not_eq_false', Bool.and_eq_true, Bool.or_eq_true, Bool.and_eq_false_iff, Bool.or_eq_false_iff, beq_iff_eq, bne_iff_ne, beq_eq_false_iff_ne, bne_eq_false_iff_eq, reduceCtorEq, false_and, and_false, true_and, and_true, or_false, false_or, or_true, true_or, not_true_eq_false, not_false_eq_true, Int.toNat_zero] at hf
          rw [if_neg hf] at e3 hps
          conv => whnf
          refine ⟨?_, i + 1, (by omega : ((i + 1 : Nat) : Int) ≤ n), ?_, rfl, rfl, ?_, ?_⟩
          · (try conv => whnf)
            (repeat' (first | exact True.intro | exact fun _ h => h | refine inR64_of ?_ ?_ | apply And.intro | refine maxLen_ge ?_)) <;> (first | omega | (dsimp only; omega) | (dsimp only [List.length_cons, List.length_nil]; omega) | (intro hg; rw [hg]; rfl) | (intro hg hh; rw [hg, hh]; rfl) | (intro hg; simp [-List.getD_eq_getElem?_getD, -Int.default_eq_zero] at hg; first | omega | (refine inR64_of ?_ ?_ <;> omega) | (constructor <;> omega)) | (simp [-List.getD_eq_getElem?_getD, -Int.default_eq_zero]; done))
          · omega
          all_goals repeat' (first | exact True.intro | refine leF_cons rfl ?_ ?_ | refine leS_cons rfl ?_ ?_ | (show PLe _ _ _ _; conv => whnf) | (show SLe _ _ _ _; conv => whnf) | (show PLeL _ _ _ _; conv => whnf) | apply And.intro | rfl | exact Nat.le_refl _ | exact fun _ _ => rfl | exact rowEq0 _ _)
          all_goals (try rw [e0])
          all_goals first | omega | rfl | (rw [e2]; exact fun _ _ => rfl) | (rw [e1, hV]; done) | (rw [← hV]; exact hps) | exact hps | skip
      simp only [bif_t, bif_f, decide_eq_true_eq, decide_eq_false_iff_not, Bool.not_eq_true', Bool.not_eq_false', Bool.and_eq_true, Bool.or_eq_true, Bool.and_eq_false_iff, Bool.or_eq_false_iff, beq_iff_eq, bne_iff_ne, beq_eq_false_iff_ne, bne_eq_false_iff_eq, reduceCtorEq, false_and, and_false, true_and, and_true, or_false, false_or, or_true, true_or, not_true_eq_false, not_false_eq_true, Int.toNat_zero] at h2
      rw [if_neg (by omega)] at hV hD
      have hat' : (nxtD s.d 6).at_ ≤ 1005000 := by rw [← hD]; omega
      conv => whnf
      refine ⟨_, fun _ => call_next 1 (nxtD s.d 6) 9 (by omega) (by omega), ?_⟩
      rw [← hD]
      conv => whnf
      refine ⟨?_, fun hf => ?_, fun hf => ?_⟩
      · (try conv => whnf)
        (repeat' (first | exact True.intro | exact fun _ h => h | refine inR64_of ?_ ?_ | apply And.intro | refine maxLen_ge ?_)) <;> (first | omega | (dsimp only; omega) | (dsimp only [List.length_cons, List.length_nil]; omega) | (intro hg; rw [hg]; rfl) | (intro hg hh; rw [hg, hh]; rfl) | (intro hg; simp [-List.getD_eq_getElem?_getD, -Int.default_eq_zero] at hg; first | omega | (refine inR64_of ?_ ?_ <;> omega) | (constructor <;> omega)) | (simp [-List.getD_eq_getElem?_getD, -Int.default_eq_zero]; done))
      · simp only [bif_t, bif_f, decide_eq_true_eq, decide_eq_false_iff_not, Bool.not_eq_true', Bool.not_eq_false', Bool.and_eq_true, Bool.or_eq_true, Bool.and_eq_false_iff, Bool.or_eq_false_iff, beq_iff_eq, bne_iff_ne, beq_eq_false_iff_ne, bne_eq_false_iff_eq, reduceCtorEq, false_and, and_false, true_and, and_true, or_false, false_or, or_true, true_or, not_true_eq_false, not_false_eq_true, Int.toNat_zero] at hf
        rw [if_pos hf] at e3 hps
        conv => whnf
        refine ⟨?_, i + 1, (by omega : ((i + 1 : Nat) : Int) ≤ n), ?_, rfl, rfl, ?_, ?_⟩
        · (try conv => whnf)
          (repeat' (first | exact True.intro | exact fun _ h => h | refine inR64_of ?_ ?_ | apply And.intro | refine maxLen_ge ?_)) <;> (first | omega | (dsimp only; omega) | (dsimp only [List.length_cons, List.length_nil]; omega) | (intro hg; rw [hg]; rfl) | (intro hg hh; rw [hg, hh]; rfl) | (intro hg; simp [-List.getD_eq_getElem?_getD, -Int.default_eq_zero] at hg; first | omega | (refine inR64_of ?_ ?_ <;> omega) | (constructor <;> omega)) | (simp [-List.getD_eq_getElem?_getD, -Int.default_eq_zero]; done))
        · omega
        all_goals repeat' (first | exact True.intro | refine leF_cons rfl ?_ ?_ | refine leS_cons rfl ?_ ?_ | (show PLe _ _ _ _; conv => whnf) | (show SLe _ _ _ _; conv => whnf) | (show PLeL _ _ _ _; conv => whnf) | apply And.intro | rfl | exact Nat.le_refl _ | exact fun _ _ => rfl | exact rowEq0 _ _)
        all_goals (try rw [e0])
        all_goals first | omega | rfl | (rw [e2]; exact fun _ _ => rfl) | (rw [e1, hV]; done) | (rw [← hV]; exact hps) | exact hps | skip
      · simp only [bif_t, bif_f, decide_eq_true_eq, decide_eq_false_iff_not, Bool.not_eq_true', Bool.not_eq_false', Bool.and_eq_true, Bool.or_eq_true, Bool.and_eq_false_iff, Bool.or_eq_false_iff, beq_iff_eq, bne_iff_ne, beq_eq_false_iff_ne, bne_eq_false_iff_eq, reduceCtorEq, false_and, and_false, true_and, and_true, or_false, false_or, or_true, true_or, not_true_eq_false, not_false_eq_true, Int.toNat_zero] at hf
        rw [if_neg hf] at e3 hps
        conv => whnf
        refine ⟨?_, i + 1, (by omega : ((i + 1 : Nat) : Int) ≤ n), ?_, rfl, rfl, ?_, ?_⟩
        · (try conv => whnf)
          (repeat' (first | exact True.intro | exact fun _ h => h | refine inR64_of ?_ ?_ | apply And.intro | refine maxLen_ge ?_)) <;> (first | omega | (dsimp only; omega) | (dsimp only [List.length_cons, List.length_nil]; omega) | (intro hg; rw [hg]; rfl) | (intro hg hh; rw [hg, hh]; rfl) | (intro hg; simp [-List.getD_eq_getElem?_getD, -Int.default_eq_zero] at hg; first | omega | (refine inR64_of ?_ ?_ <;> omega) | (constructor <;> omega)) | (simp [-List.getD_eq_getElem?_getD, -Int.default_eq_zero]; done))
        · omega
        all_goals repeat' (first | exact True.intro | refine leF_cons rfl ?_ ?_ | refine leS_cons rfl ?_ ?_ | (show PLe _ _ _ _; conv => whnf) | (show SLe _ _ _ _; conv => whnf) | (show PLeL _ _ _ _; conv => whnf) | apply And.intro | rfl | exact Nat.le_refl _ | exact fun _ _ => rfl | exact rowEq0 _ _)
        all_goals (try rw [e0])
        all_goals first | omega | rfl | (rw [e2]; exact fun _ _ => rfl) | (rw [e1, hV]; done) | (rw [← hV]; exact hps) | exact hps | skip

    · replace hc := of_decide_eq_false hc
      have : n.toNat = i := by omega
      rw [this]
      generalize serS d i = s at p1 ⊢
      rw [← p1]
      conv => whnf
      refine ⟨?_, [], ?_⟩
      · (try conv => whnf)
        (repeat' (first | exact True.intro | exact fun _ h => h | refine inR64_of ?_ ?_ | apply And.intro | refine maxLen_ge ?_)) <;> (first | omega | (dsimp only; omega) | (dsimp only [List.length_cons, List.length_nil]; omega) | (intro hg; rw [hg]; rfl) | (intro hg hh; rw [hg, hh]; rfl) | (intro hg; simp [-List.getD_eq_getElem?_getD, -Int.default_eq_zero] at hg; first | omega | (refine inR64_of ?_ ?_ <;> omega) | (constructor <;> omega)) | (simp [-List.getD_eq_getElem?_getD, -Int.default_eq_zero]; done))
      conv => whnf
      refine ⟨rfl, ?_, ?_, trivial⟩
      all_goals repeat' (first | exact True.intro | refine leF_cons rfl ?_ ?_ | refine leS_cons rfl ?_ ?_ | (show PLe _ _ _ _; conv => whnf) | (show SLe _ _ _ _; conv => whnf) | (show PLeL _ _ _ _; conv => whnf) | apply And.intro | rfl | exact Nat.le_refl _ | exact fun _ _ => rfl | exact rowEq0 _ _)
end Pv
end Go.Proofs.Ytogoplhikmmggaa
