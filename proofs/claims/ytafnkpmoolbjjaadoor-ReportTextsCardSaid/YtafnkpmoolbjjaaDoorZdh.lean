/- A LAW's ROW, FROM ITS FUNCTION's CONTRACT: slices of slices that came in. -/
import Derived.Test.YtafnkpmoolbjjaaDoorZdg
import Derived.Test.YtafnkpmoolbjjaaDoorZdf
import Derived.ProofKit
import Derived.ChangeOld
import Derived.DataElems
import Derived.Below
import Derived.SizedLaws
/- LAW 42, THE WALKS: made violations. -/
set_option linter.unusedSimpArgs false
set_option linter.unusedVariables false
namespace Go.Proofs.YtafnkpmoolbjjaaDoor
namespace Pv
def c9L1 : C := (.seq (.seq (.reg [⟨(some 10), 160, none, .mv (.t 6)⟩,
    ⟨(some 11), 176, none, .bi false .gtr (.t 10) (.c (.int .i64 0))⟩])
  (.cond (.t 11) .skip (.exit 0)))
  (.seq (.block 1 (.seq (.reg [⟨(some 14), 224, none, .mv (.t 0)⟩,
    ⟨(some 15), 240, none, .call (.c (.fn (.func 26) [] [])) [(.t 14), (.c (.int .i64 9))]⟩,
    ⟨(some 16), 256, none, .mv (.t 0)⟩,
    ⟨(some 17), 272, none, .call (.c (.fn (.func 26) [] [])) [(.t 16), (.c (.int .i64 4))]⟩,
    ⟨(some 18), 288, none, .mv (.t 0)⟩,
    ⟨(some 19), 304, none, .call (.c (.fn (.func 26) [] [])) [(.t 18), (.c (.int .i64 6))]⟩,
    ⟨(some 20), 320, none, .mv (.t 0)⟩,
    ⟨(some 21), 336, none, .call (.c (.fn (.func 26) [] [])) [(.t 20), (.c (.int .i64 8))]⟩,
    ⟨(some 22), 352, none, .bi false .sub (.t 21) (.c (.int .i64 2))⟩,
    ⟨(some 23), 368, none, .bd [(.int .i64 0), (.int .i64 0), (.int .i64 0), (.int .i64 0)] [(0, 1, (.t 15)), (1, 1, (.t 17)), (2, 1, (.t 19)), (3, 1, (.t 22))]⟩,
    ⟨(some 7), 112, none, .al [(.int .i64 0), (.int .i64 0), (.int .i64 0), (.int .i64 0)]⟩,
    ⟨none, 0, none, .st 4 (.t 7) (.t 23)⟩])
  (.seq (.seq (.reg [⟨(some 24), 384, none, .fa 1 (.t 7)⟩,
    ⟨(some 25), 400, none, .ld 1 false (.t 24)⟩,
    ⟨(some 26), 416, none, .mv (.t 1)⟩,
    ⟨(some 27), 432, none, .len (.t 26)⟩,
    ⟨(some 28), 448, none, .bi false .lss (.t 25) (.t 27)⟩,
    ⟨(some 29), 464, none, .mv (.t 28)⟩,
    ⟨(some 30), 480, (some (29, true)), .mv (.t 1)⟩,
    ⟨(some 31), 496, (some (29, true)), .fa 1 (.t 7)⟩,
    ⟨(some 32), 512, (some (29, true)), .ld 1 false (.t 31)⟩,
    ⟨(some 33), 528, (some (29, true)), .ia 1 (.t 30) (.t 32)⟩,
    ⟨(some 34), 544, (some (29, true)), .ld 1 false (.t 33)⟩,
    ⟨(some 35), 560, (some (29, true)), .len (.t 34)⟩,
    ⟨(some 36), 576, (some (29, true)), .bi false .gtr (.t 35) (.c (.int .i64 0))⟩,
    ⟨(some 37), 592, none, .pick (.t 29) (.t 36) (.c (.bool false))⟩,
    ⟨(some 38), 608, none, .mv (.t 37)⟩,
    ⟨(some 39), 624, (some (38, true)), .mv (.t 0)⟩,
    ⟨(some 40), 640, (some (38, true)), .call (.c (.fn (.func 26) [] [])) [(.t 39), (.c (.int .i64 4))]⟩,
    ⟨(some 41), 656, (some (38, true)), .bi false .gtr (.t 40) (.c (.int .i64 0))⟩,
    ⟨(some 42), 672, none, .pick (.t 38) (.t 41) (.c (.bool false))⟩])
  (.cond (.t 42) (.reg [⟨(some 43), 688, none, .mv (.t 0)⟩,
    ⟨(some 44), 704, none, .mv (.t 1)⟩,
    ⟨(some 45), 720, none, .fa 1 (.t 7)⟩,
    ⟨(some 46), 736, none, .ld 1 false (.t 45)⟩,
    ⟨(some 47), 752, none, .ia 1 (.t 44) (.t 46)⟩,
    ⟨(some 48), 768, none, .ld 1 false (.t 47)⟩,
    ⟨(some 49), 784, none, .len (.t 48)⟩,
    ⟨(some 50), 800, none, .call (.c (.fn (.func 26) [] [])) [(.t 43), (.t 49)]⟩,
    ⟨(some 51), 816, none, .fa 2 (.t 7)⟩,
    ⟨none, 0, none, .st 1 (.t 51) (.t 50)⟩]) .skip))
  (.reg [⟨(some 52), 832, none, .mv (.t 5)⟩,
    ⟨(some 53), 848, none, .ld 4 true (.t 7)⟩,
    ⟨(some 54), 864, none, .bs 41 4 [(.t 53)]⟩,
    ⟨(some 55), 880, none, .app 41 4 32 (.t 52) (.t 54)⟩,
    ⟨(some 5), 80, none, .mv (.t 55)⟩]))))
  (.reg [⟨(some 12), 192, none, .mv (.t 6)⟩,
    ⟨(some 13), 208, none, .bi false .sub (.t 12) (.c (.int .i64 1))⟩,
    ⟨(some 6), 96, none, .mv (.t 13)⟩])))
def c9 : C := (.seq (.reg [⟨(some 4), 64, none, .mv (.c (.nil 4))⟩])
  (.seq (.reg [⟨(some 5), 80, none, .mv (.c (.nil 4))⟩])
  (.seq (.seq (.reg [⟨(some 8), 128, none, .mv (.t 0)⟩,
    ⟨(some 9), 144, none, .call (.c (.fn (.func 26) [] [])) [(.t 8), (.c (.int .i64 9))]⟩,
    ⟨(some 6), 96, none, .mv (.t 9)⟩])
  (.block 0 (.loop c9L1)))
  (.seq (.reg [⟨(some 56), 896, none, .mv (.t 5)⟩,
    ⟨(some 4), 64, none, .mv (.t 56)⟩])
  .ret))))
theorem fits9 : fits Tryd.prog false Tryd.f9 2 57 [(4, none)] = some c9.er := by kernel_rfl

/-- A condition. -/
structure Cd where
  r : Int
  k : Int
  v : Int
  f : Int
  u : Int
  a : Int
  b : Int
  deriving DecidableEq
instance : Inhabited Cd := ⟨⟨0, 0, 0, 0, 0, 0, 0⟩⟩
def eCd (r : Cd) : List PV := [.int .i64 r.r, .int .i64 r.k, .int .i64 r.v, .int .i64 r.f, .int .i64 r.u, .int .i64 r.a, .int .i64 r.b]
def eCs (σ : Nat) (l : List Cd) : List PV := [.sl σ 7 l.length (fl eCd l)]

def it {α : Type} (f : α → α) : Nat → α → α
  | 0, s => s
  | n + 1, s => it f n (f s)
def vioS (C : List (List Cd)) (d : Dk) : Vi × Dk :=
  let d1 := nxtD d 9
  let d2 := nxtD d1 4
  let d3 := nxtD d2 6
  let d4 := nxtD d3 8
  let d5 := nxtD d4 4
  let n : Int := (C.getD (nxt d1 4).toNat default).length
  if nxt d1 4 < C.length ∧ 0 < n then
    if 0 < nxt d4 4 then (⟨nxt d 9, nxt d1 4, nxt d5 n, nxt d3 8 - 2⟩, nxtD d5 n) else (⟨nxt d 9, nxt d1 4, nxt d2 6, nxt d3 8 - 2⟩, d5)
  else (⟨nxt d 9, nxt d1 4, nxt d2 6, nxt d3 8 - 2⟩, d4)
def vioN (C : List (List Cd)) (s : List Vi × Dk) : List Vi × Dk := (s.1 ++ [(vioS C s.2).1], (vioS C s.2).2)
def vioF (C : List (List Cd)) (d : Dk) : List Vi × Dk := it (vioN C) (nxt d 9).toNat ([], nxtD d 9)
/-- What a made violation is like. -/
def GoodV (v : Vi) : Prop := (0 ≤ v.t ∧ v.t ≤ 8) ∧ (0 ≤ v.s ∧ v.s ≤ 3) ∧ (0 ≤ v.c ∧ v.c ≤ 99999999) ∧ (-2 ≤ v.b ∧ v.b ≤ 5)
theorem vioS_ok {C : List (List Cd)} (hC : ∀ i, i < C.length → (C.getD i default).length ≤ 99999999) (d : Dk) : GoodV (vioS C d).1 ∧ (vioS C d).2.at_ ≤ d.at_ + 6 := by
  have r1 := nxt_lt d (n := 9) (by omega)
  have a1 := nxtD_at d 9
  have r2 := nxt_lt (nxtD d 9) (n := 4) (by omega)
  have a2 := nxtD_at (nxtD d 9) 4
  unfold vioS
  dsimp only
  generalize nxt (nxtD d 9) 4 = s at r2 ⊢
  generalize nxtD (nxtD d 9) 4 = d2 at a2 ⊢
  have r3 := nxt_lt d2 (n := 6) (by omega)
  have a3 := nxtD_at d2 6
  generalize nxtD d2 6 = d3 at a3 ⊢
  have r4 := nxt_lt d3 (n := 8) (by omega)
  have a4 := nxtD_at d3 8
  generalize nxtD d3 8 = d4 at a4 ⊢
  have a5 := nxtD_at d4 4
  generalize nxtD d4 4 = d5 at a5 ⊢
  split
  · rename_i h
    have h9 := hC s.toNat (by omega)
    have r6 := nxt_lt d5 h.2
    have a6 := nxtD_at d5 ((C.getD s.toNat default).length : Int)
    split
    · unfold GoodV; dsimp only; omega
    · unfold GoodV; dsimp only; omega
  · unfold GoodV; dsimp only; omega
theorem it_ok {C : List (List Cd)} (hC : ∀ i, i < C.length → (C.getD i default).length ≤ 99999999) : ∀ (n : Nat) (s : List Vi × Dk), (∀ i, i < s.1.length → GoodV (s.1.getD i default)) →
    (it (vioN C) n s).1.length = s.1.length + n ∧ (∀ i, i < (it (vioN C) n s).1.length → GoodV ((it (vioN C) n s).1.getD i default)) ∧ (it (vioN C) n s).2.at_ ≤ s.2.at_ + 6 * n
  | 0, s, h => ⟨rfl, h, Nat.le_refl _⟩
  | n + 1, s, h => by
    have h1 := vioS_ok hC s.2
    have hp : ∀ i, i < (vioN C s).1.length → GoodV ((vioN C s).1.getD i default) := fun i hi => by
      unfold vioN at hi ⊢
      dsimp only at hi ⊢
      rw [List.length_append, List.length_cons, List.length_nil] at hi
      by_cases hi2 : i < s.1.length
      · have := h i hi2
        rw [List.getD_eq_getElem?_getD] at this ⊢
        rw [List.getElem?_append_left hi2]; exact this
      · have hi3 : i = s.1.length := by omega
        subst hi3
        rw [List.getD_eq_getElem?_getD, List.getElem?_append_right (Nat.le_refl _), Nat.sub_self]
        exact h1.1
    have ih := it_ok hC n (vioN C s) hp
    have e1 : (vioN C s).1.length = s.1.length + 1 := by simp [vioN]
    have e2 : (vioN C s).2 = (vioS C s.2).2 := rfl
    unfold it
    rw [e1, e2] at ih
    exact ⟨by omega, ih.2.1, by omega⟩
theorem vioF_ok {C : List (List Cd)} (hC : ∀ i, i < C.length → (C.getD i default).length ≤ 99999999) (d : Dk) :
    (vioF C d).1.length ≤ 8 ∧ (∀ i, i < (vioF C d).1.length → GoodV ((vioF C d).1.getD i default)) ∧ (vioF C d).2.at_ ≤ d.at_ + 60 := by
  have r1 := nxt_lt d (n := 9) (by omega)
  have a1 := nxtD_at d 9
  have h := it_ok hC (nxt d 9).toNat ([], nxtD d 9) (fun i hi => absurd hi (Nat.not_lt_zero _))
  unfold vioF
  simp only [List.length_nil] at h
  generalize it (vioN C) (nxt d 9).toNat ([], nxtD d 9) = W at h ⊢
  exact ⟨by omega, h.2.1, by omega⟩

set_option maxRecDepth 100000 in
set_option maxHeartbeats 16000000 in
theorem call9 (τ σ : Nat) (C : List (List Cd)) (d : Dk) (hd : d.at_ ≤ 900000) (hl : C.length ≤ 99999999) (hC : ∀ i, i < C.length → (C.getD i default).length ≤ 99999999) :
    PureCall Tryd.prog 9 [.pt 0 0 0, .sl τ 1 C.length (fl (eCs σ) C)] [.box (eDk 1 d)] ⟨.sl 0 4 (vioF C d).1.length (fl eVi (vioF C d).1), [.box (eDk 1 (vioF C d).2)], []⟩ := by
  refine pure_call mix Tryd.func9 fits9 rfl ?_
  conv => whnf
  refine ⟨_, fun _ => call_next 1 d 9 (by omega) (by omega), ?_⟩
  have r0 := nxt_lt d (n := 9) (by omega)
  have a0 := nxtD_at d 9
  unfold vioF
  obtain ⟨m0, hm0⟩ : ∃ m : Nat, (m : Int) = nxt d 9 := ⟨(nxt d 9).toNat, by omega⟩
  rw [← hm0] at r0 ⊢
  rw [Int.toNat_natCast]
  generalize nxtD d 9 = d0 at a0 ⊢
  conv => whnf
  refine ⟨?_, ?_⟩
  · (try conv => whnf)
    (repeat' (first | exact True.intro | exact fun _ h => h | refine inR64_of ?_ ?_ | apply And.intro | refine maxLen_ge ?_)) <;> (first | omega | decide | (dsimp only; omega) | (dsimp only [List.length_cons, List.length_nil]; omega) | (intro hg; rw [hg]; rfl) | (intro hg hh; rw [hg, hh]; rfl) | (intro hg; simp [-List.getD_eq_getElem?_getD, -Int.default_eq_zero] at hg; first | omega | (refine inR64_of ?_ ?_ <;> omega) | (constructor <;> omega)) | (simp [-List.getD_eq_getElem?_getD, -Int.default_eq_zero]; done))
  refine LSem.adopt 5 1000000 41 4 4 rfl rfl ?_
  refine LSem.loop (n := 57) mix (α := Nat × List Vi × Dk) (fun s => s.1 + s.2.1.length = m0 ∧ it (vioN C) s.1 s.2 = it (vioN C) m0 ([], d0) ∧ s.2.2.at_ ≤ 901000 + 10 * s.2.1.length)
    (fun s => [(0, .pt 0 0 0), (1, .sl τ 1 C.length (fl (eCs σ) C)), (5, .os 1000000), (6, .int .i64 s.1)])
    (fun s => [(0, .box (eDk 1 s.2.2)), (1000000, .row 0 41 4 s.2.1.length (fl eVi s.2.1))]) (fun s => s.1) (m0, [], d0) ?_ ?_ ?_
  · exact ⟨rfl, rfl, by dsimp only; omega⟩
  · refine ⟨rfl, rfl, ?_, ?_⟩
    all_goals repeat' (first | exact True.intro | refine leF_cons rfl ?_ ?_ | refine leS_cons rfl ?_ ?_ | (show PLe _ _ _ _; conv => whnf) | (show SLe _ _ _ _; conv => whnf) | (show PLeL _ _ _ _; conv => whnf) | apply And.intro | rfl | exact Nat.le_refl _ | exact fun _ _ => rfl | exact rowEq0 _ _)
    all_goals skip
  · intro s hs
    obtain ⟨m, l, e⟩ := s
    obtain ⟨k1, k2, k3⟩ := hs
    dsimp only at k1 k2 k3
    conv => whnf
    refine ⟨trivial, fun hc => ?_, fun hc => ?_⟩
    · replace hc := of_decide_eq_true hc
      obtain ⟨m, rfl⟩ : ∃ m', m = m' + 1 := ⟨m - 1, by
        have h : (0 : Int) < m := hc
        omega⟩
      have hvs := vioS_ok hC e
      have hst : it (vioN C) m (l ++ [(vioS C e).1], (vioS C e).2) = it (vioN C) m0 ([], d0) := k2
      have q := fl_push eVi l (vioS C e).1
      have hxl : (l ++ [(vioS C e).1]).length = l.length + 1 := by simp
      have hVS : vioS C e = vioS C e := rfl
      conv at hVS => rhs; unfold vioS
      dsimp only at hVS
      generalize hW : vioS C e = W at hvs hst q hxl hVS
      conv => whnf
      refine ⟨_, fun _ => call_next 1 e 9 (by omega) (by omega), ?_⟩
      have r1 := nxt_lt e (n := 9) (by omega)
      have a1 := nxtD_at e 9
      generalize nxt e 9 = t at r1 hVS ⊢
      generalize nxtD e 9 = e1 at a1 hVS ⊢
      conv => whnf
      refine ⟨_, fun _ => call_next 1 e1 4 (by omega) (by omega), ?_⟩
      have r2 := nxt_lt e1 (n := 4) (by omega)
      have a2 := nxtD_at e1 4
      obtain ⟨s, hs⟩ : ∃ s : Nat, (s : Int) = nxt e1 4 := ⟨(nxt e1 4).toNat, by omega⟩
      rw [← hs] at r2 hVS ⊢
      generalize nxtD e1 4 = e2 at a2 hVS ⊢
      conv => whnf
      refine ⟨_, fun _ => call_next 1 e2 6 (by omega) (by omega), ?_⟩
      have r3 := nxt_lt e2 (n := 6) (by omega)
      have a3 := nxtD_at e2 6
      generalize nxt e2 6 = c at r3 hVS ⊢
      generalize nxtD e2 6 = e3 at a3 hVS ⊢
      conv => whnf
      refine ⟨_, fun _ => call_next 1 e3 8 (by omega) (by omega), ?_⟩
      have r4 := nxt_lt e3 (n := 8) (by omega)
      have a4 := nxtD_at e3 8
      generalize nxt e3 8 = b at r4 hVS ⊢
      generalize nxtD e3 8 = e4 at a4 hVS ⊢
      rw [Int.toNat_natCast] at hVS
      conv => whnf
      refine ⟨_, fun _ => call_next 1 e4 4 (by omega) (by omega), ?_⟩
      have hj : ((s : Int)).toNat = s := by omega
      rw [hj]
      by_cases h1 : (s : Int) < C.length
      · by_cases h2 : (0 : Int) < (C.getD s default).length
        · rw [if_pos ⟨h1, h2⟩] at hVS
          have hCn := hC s (by omega)
          rw [decide_eq_true h1, decide_eq_true h2]
          have a5 := nxtD_at e4 4
          have r5 := nxt_lt e4 (n := 4) (by omega)
          generalize nxt e4 4 = p at r5 hVS ⊢
          generalize nxtD e4 4 = e5 at a5 hVS ⊢
          conv => whnf
          refine ⟨?_, fun hp => ?_, fun hp => ?_⟩
          · (try conv => whnf)
            (repeat' (first | exact True.intro | exact fun _ h => h | refine inR64_of ?_ ?_ | apply And.intro | refine maxLen_ge ?_)) <;> (first | omega | decide | (dsimp only; omega) | (dsimp only [List.length_cons, List.length_nil]; omega) | (intro hg; rw [hg]; rfl) | (intro hg hh; rw [hg, hh]; rfl) | (intro hg; simp [-List.getD_eq_getElem?_getD, -Int.default_eq_zero] at hg; first | omega | (refine inR64_of ?_ ?_ <;> omega) | (constructor <;> omega)) | (simp [-List.getD_eq_getElem?_getD, -Int.default_eq_zero]; done))
          · have hp : 0 < p := of_decide_eq_true hp
            rw [if_pos hp] at hVS
            conv => whnf
            rw [hj]
            have r6 := nxt_lt e5 h2
            refine ⟨_, fun _ => call_next 1 e5 ((C.getD s default).length) (by omega) (by omega), ?_⟩
            subst hVS
            dsimp only at hvs hst q hxl
            conv => whnf
            refine ⟨?_, (m, l ++ [_], _), ⟨?_, hst, ?_⟩, ?_, rfl, rfl, ?_, ?_⟩
            · (try conv => whnf)
              (repeat' (first | exact True.intro | exact fun _ h => h | refine inR64_of ?_ ?_ | apply And.intro | refine maxLen_ge ?_)) <;> (first | omega | decide | (dsimp only; omega) | (dsimp only [List.length_cons, List.length_nil]; omega) | (intro hg; rw [hg]; rfl) | (intro hg hh; rw [hg, hh]; rfl) | (intro hg; simp [-List.getD_eq_getElem?_getD, -Int.default_eq_zero] at hg; first | omega | (refine inR64_of ?_ ?_ <;> omega) | (constructor <;> omega)) | (simp [-List.getD_eq_getElem?_getD, -Int.default_eq_zero]; done))
            · dsimp only; (try rw [hxl]); omega
            · dsimp only; rw [hxl]; omega
            · dsimp only; (try rw [hxl]); omega
            all_goals repeat' (first | exact True.intro | refine leF_cons rfl ?_ ?_ | refine leS_cons rfl ?_ ?_ | (show PLe _ _ _ _; conv => whnf) | (show SLe _ _ _ _; conv => whnf) | (show PLeL _ _ _ _; conv => whnf) | apply And.intro | rfl | exact Nat.le_refl _ | exact fun _ _ => rfl | exact rowEq0 _ _)
            all_goals first | exact q | (dsimp only; rw [hxl]; rfl) | (dsimp only; rw [hxl]; done) | (dsimp only; omega) | omega | skip
          · have hp : ¬ 0 < p := of_decide_eq_false hp
            rw [if_neg hp] at hVS
            subst hVS
            dsimp only at hvs hst q hxl
            conv => whnf
            refine ⟨?_, (m, l ++ [_], _), ⟨?_, hst, ?_⟩, ?_, rfl, rfl, ?_, ?_⟩
            · (try conv => whnf)
              (repeat' (first | exact True.intro | exact fun _ h => h | refine inR64_of ?_ ?_ | apply And.intro | refine maxLen_ge ?_)) <;> (first | omega | decide | (dsimp only; omega) | (dsimp only [List.length_cons, List.length_nil]; omega) | (intro hg; rw [hg]; rfl) | (intro hg hh; rw [hg, hh]; rfl) | (intro hg; simp [-List.getD_eq_getElem?_getD, -Int.default_eq_zero] at hg; first | omega | (refine inR64_of ?_ ?_ <;> omega) | (constructor <;> omega)) | (simp [-List.getD_eq_getElem?_getD, -Int.default_eq_zero]; done))
            · dsimp only; (try rw [hxl]); omega
            · dsimp only; rw [hxl]; omega
            · dsimp only; (try rw [hxl]); omega
            all_goals repeat' (first | exact True.intro | refine leF_cons rfl ?_ ?_ | refine leS_cons rfl ?_ ?_ | (show PLe _ _ _ _; conv => whnf) | (show SLe _ _ _ _; conv => whnf) | (show PLeL _ _ _ _; conv => whnf) | apply And.intro | rfl | exact Nat.le_refl _ | exact fun _ _ => rfl | exact rowEq0 _ _)
            all_goals first | exact q | (dsimp only; rw [hxl]; rfl) | (dsimp only; rw [hxl]; done) | (dsimp only; omega) | omega | skip
        · rw [if_neg (fun h => h2 h.2)] at hVS
          rw [decide_eq_true h1, decide_eq_false h2]
          conv => whnf
          refine ⟨?_, fun hp => (by cases hp), fun _ => ?_⟩
          · (try conv => whnf)
            (repeat' (first | exact True.intro | exact fun _ h => h | refine inR64_of ?_ ?_ | apply And.intro | refine maxLen_ge ?_)) <;> (first | omega | decide | (dsimp only; omega) | (dsimp only [List.length_cons, List.length_nil]; omega) | (intro hg; rw [hg]; rfl) | (intro hg hh; rw [hg, hh]; rfl) | (intro hg; simp [-List.getD_eq_getElem?_getD, -Int.default_eq_zero] at hg; first | omega | (refine inR64_of ?_ ?_ <;> omega) | (constructor <;> omega)) | (simp [-List.getD_eq_getElem?_getD, -Int.default_eq_zero]; done))
          subst hVS
          dsimp only at hvs hst q hxl
          conv => whnf
          refine ⟨?_, (m, l ++ [_], _), ⟨?_, hst, ?_⟩, ?_, rfl, rfl, ?_, ?_⟩
          · (try conv => whnf)
            (repeat' (first | exact True.intro | exact fun _ h => h | refine inR64_of ?_ ?_ | apply And.intro | refine maxLen_ge ?_)) <;> (first | omega | decide | (dsimp only; omega) | (dsimp only [List.length_cons, List.length_nil]; omega) | (intro hg; rw [hg]; rfl) | (intro hg hh; rw [hg, hh]; rfl) | (intro hg; simp [-List.getD_eq_getElem?_getD, -Int.default_eq_zero] at hg; first | omega | (refine inR64_of ?_ ?_ <;> omega) | (constructor <;> omega)) | (simp [-List.getD_eq_getElem?_getD, -Int.default_eq_zero]; done))
          · dsimp only; (try rw [hxl]); omega
          · dsimp only; rw [hxl]; omega
          · dsimp only; (try rw [hxl]); omega
          all_goals repeat' (first | exact True.intro | refine leF_cons rfl ?_ ?_ | refine leS_cons rfl ?_ ?_ | (show PLe _ _ _ _; conv => whnf) | (show SLe _ _ _ _; conv => whnf) | (show PLeL _ _ _ _; conv => whnf) | apply And.intro | rfl | exact Nat.le_refl _ | exact fun _ _ => rfl | exact rowEq0 _ _)
          all_goals first | exact q | (dsimp only; rw [hxl]; rfl) | (dsimp only; rw [hxl]; done) | (dsimp only; omega) | omega | skip
      · rw [if_neg (fun h => h1 h.1)] at hVS
        rw [decide_eq_false h1]
        conv => whnf
        refine ⟨?_, fun hp => (by cases hp), fun _ => ?_⟩
        · (try conv => whnf)
          (repeat' (first | exact True.intro | exact fun _ h => h | refine inR64_of ?_ ?_ | apply And.intro | refine maxLen_ge ?_)) <;> (first | omega | decide | (dsimp only; omega) | (dsimp only [List.length_cons, List.length_nil]; omega) | (intro hg; rw [hg]; rfl) | (intro hg hh; rw [hg, hh]; rfl) | (intro hg; simp [-List.getD_eq_getElem?_getD, -Int.default_eq_zero] at hg; first | omega | (refine inR64_of ?_ ?_ <;> omega) | (constructor <;> omega)) | (simp [-List.getD_eq_getElem?_getD, -Int.default_eq_zero]; done))
        subst hVS
        dsimp only at hvs hst q hxl
        conv => whnf
        refine ⟨?_, (m, l ++ [_], _), ⟨?_, hst, ?_⟩, ?_, rfl, rfl, ?_, ?_⟩
        · (try conv => whnf)
          (repeat' (first | exact True.intro | exact fun _ h => h | refine inR64_of ?_ ?_ | apply And.intro | refine maxLen_ge ?_)) <;> (first | omega | decide | (dsimp only; omega) | (dsimp only [List.length_cons, List.length_nil]; omega) | (intro hg; rw [hg]; rfl) | (intro hg hh; rw [hg, hh]; rfl) | (intro hg; simp [-List.getD_eq_getElem?_getD, -Int.default_eq_zero] at hg; first | omega | (refine inR64_of ?_ ?_ <;> omega) | (constructor <;> omega)) | (simp [-List.getD_eq_getElem?_getD, -Int.default_eq_zero]; done))
        · dsimp only; (try rw [hxl]); omega
        · dsimp only; rw [hxl]; omega
        · dsimp only; (try rw [hxl]); omega
        all_goals repeat' (first | exact True.intro | refine leF_cons rfl ?_ ?_ | refine leS_cons rfl ?_ ?_ | (show PLe _ _ _ _; conv => whnf) | (show SLe _ _ _ _; conv => whnf) | (show PLeL _ _ _ _; conv => whnf) | apply And.intro | rfl | exact Nat.le_refl _ | exact fun _ _ => rfl | exact rowEq0 _ _)
        all_goals first | exact q | (dsimp only; rw [hxl]; rfl) | (dsimp only; rw [hxl]; done) | (dsimp only; omega) | omega | skip
    · replace hc := of_decide_eq_false hc
      have h0 : m = 0 := by
        have h : ¬ (0 : Int) < m := hc
        omega
      subst h0
      have hp : (l, e) = it (vioN C) m0 ([], d0) := k2
      rw [← hp]
      conv => whnf
      refine ⟨?_, [], ?_⟩
      · (try conv => whnf)
        (repeat' (first | exact True.intro | exact fun _ h => h | refine inR64_of ?_ ?_ | apply And.intro | refine maxLen_ge ?_)) <;> (first | omega | decide | (dsimp only; omega) | (dsimp only [List.length_cons, List.length_nil]; omega) | (intro hg; rw [hg]; rfl) | (intro hg hh; rw [hg, hh]; rfl) | (intro hg; simp [-List.getD_eq_getElem?_getD, -Int.default_eq_zero] at hg; first | omega | (refine inR64_of ?_ ?_ <;> omega) | (constructor <;> omega)) | (simp [-List.getD_eq_getElem?_getD, -Int.default_eq_zero]; done))
      conv => whnf
      refine ⟨rfl, ?_, ?_, trivial⟩
      all_goals repeat' (first | exact True.intro | refine leF_cons rfl ?_ ?_ | refine leS_cons rfl ?_ ?_ | (show PLe _ _ _ _; conv => whnf) | (show SLe _ _ _ _; conv => whnf) | (show PLeL _ _ _ _; conv => whnf) | apply And.intro | rfl | exact Nat.le_refl _ | exact fun _ _ => rfl | exact rowEq0 _ _)
end Pv
end Go.Proofs.YtafnkpmoolbjjaaDoor

/- LAW 42, THE WALKS: the example of the chapter. -/
set_option linter.unusedSimpArgs false
set_option linter.unusedVariables false
namespace Go.Proofs.YtafnkpmoolbjjaaDoor
namespace Pv
def c7 : C := (.seq (.reg [⟨(some 0), 0, none, .mv (.c (.bool false))⟩])
  (.seq (.reg [⟨(some 13), 208, none, .bd [(.int .i64 0), (.int .i64 0), (.int .i64 0), (.int .i64 0)] [(0, 1, (.c (.int .i64 3))), (2, 1, (.c (.int .i64 1))), (3, 1, (.c (.int .i64 (-1))))]⟩,
    ⟨(some 14), 224, none, .bd [(.int .i64 0), (.int .i64 0), (.int .i64 0), (.int .i64 0)] [(0, 1, (.c (.int .i64 4))), (2, 1, (.c (.int .i64 1)))]⟩,
    ⟨(some 15), 240, none, .bd [(.int .i64 0), (.int .i64 0), (.int .i64 0), (.int .i64 0)] [(0, 1, (.c (.int .i64 5))), (2, 1, (.c (.int .i64 1))), (3, 1, (.c (.int .i64 (-2))))]⟩,
    ⟨(some 16), 256, none, .bs 41 4 [(.t 13), (.t 14), (.t 15)]⟩,
    ⟨(some 1), 16, none, .mv (.t 16)⟩])
  (.seq (.reg [⟨(some 18), 288, none, .mv (.t 1)⟩,
    ⟨(some 19), 304, none, .call (.c (.fn (.func 16) [] [])) [(.t 18)]⟩,
    ⟨(some 17), 272, none, .mv (.t 19)⟩,
    ⟨(some 20), 320, none, .ex (.t 17) 0⟩,
    ⟨(some 21), 336, none, .ex (.t 17) 1⟩,
    ⟨(some 22), 352, none, .ex (.t 17) 2⟩,
    ⟨(some 2), 32, none, .al [(.int .i64 0), (.int .i64 0), (.int .i64 0), (.int .i64 0)]⟩,
    ⟨none, 0, none, .st 4 (.t 2) (.t 20)⟩,
    ⟨(some 3), 48, none, .mv (.t 21)⟩,
    ⟨(some 4), 64, none, .mv (.t 22)⟩])
  (.seq (.reg [⟨(some 24), 384, none, .mv (.t 1)⟩,
    ⟨(some 25), 400, none, .slc 4 (.t 24) none (some (.c (.int .i64 2)))⟩,
    ⟨(some 26), 416, none, .call (.c (.fn (.func 15) [] [])) [(.t 25)]⟩,
    ⟨(some 23), 368, none, .mv (.t 26)⟩,
    ⟨(some 27), 432, none, .ex (.t 23) 0⟩,
    ⟨(some 28), 448, none, .ex (.t 23) 1⟩,
    ⟨(some 5), 80, none, .mv (.t 27)⟩,
    ⟨(some 6), 96, none, .mv (.t 28)⟩])
  (.seq (.reg [⟨(some 30), 480, none, .mv (.t 5)⟩,
    ⟨(some 31), 496, none, .call (.c (.fn (.func 12) [] [])) [(.t 30)]⟩,
    ⟨(some 29), 464, none, .mv (.t 31)⟩,
    ⟨(some 32), 512, none, .ex (.t 29) 0⟩,
    ⟨(some 33), 528, none, .ex (.t 29) 1⟩,
    ⟨(some 34), 544, none, .ex (.t 29) 2⟩,
    ⟨(some 7), 112, none, .mv (.t 32)⟩,
    ⟨(some 8), 128, none, .mv (.t 33)⟩,
    ⟨(some 9), 144, none, .mv (.t 34)⟩])
  (.seq (.reg [⟨(some 36), 576, none, .call (.c (.fn (.func 12) [] [])) [(.c (.str [115, 116, 101, 112, 32, 49, 32, 115, 105, 116, 101, 32, 48, 32, 99, 111, 110, 100, 105, 116, 105, 111, 110, 32, 50, 32, 98, 121, 32, 120, 10]))]⟩,
    ⟨(some 35), 560, none, .mv (.t 36)⟩,
    ⟨(some 37), 592, none, .ex (.t 35) 0⟩,
    ⟨(some 38), 608, none, .ex (.t 35) 1⟩,
    ⟨(some 39), 624, none, .ex (.t 35) 2⟩,
    ⟨(some 10), 160, none, .mv (.t 37)⟩,
    ⟨(some 11), 176, none, .mv (.t 38)⟩,
    ⟨(some 12), 192, none, .mv (.t 39)⟩])
  (.seq (.drw [⟨(some 40), 640, none, .mv (.t 4)⟩,
    ⟨(some 41), 656, none, .mv (.t 40)⟩,
    ⟨(some 42), 672, (some (41, true)), .mv (.t 3)⟩,
    ⟨(some 43), 688, (some (41, true)), .bi false .eql (.t 42) (.c (.int .i64 3))⟩,
    ⟨(some 44), 704, none, .pick (.t 41) (.t 43) (.c (.bool false))⟩,
    ⟨(some 45), 720, none, .mv (.t 44)⟩,
    ⟨(some 46), 736, (some (45, true)), .ld 4 true (.t 2)⟩,
    ⟨(some 47), 752, (some (45, true)), .mv (.t 1)⟩,
    ⟨(some 48), 768, (some (45, true)), .ia 4 (.t 47) (.c (.int .i64 0))⟩,
    ⟨(some 49), 784, (some (45, true)), .ld 4 true (.t 48)⟩,
    ⟨(some 50), 800, (some (45, true)), .eqa false [0, 0, 0, 0] (.t 46) (.t 49)⟩,
    ⟨(some 51), 816, none, .pick (.t 45) (.t 50) (.c (.bool false))⟩,
    ⟨(some 52), 832, none, .mv (.t 51)⟩,
    ⟨(some 53), 848, (some (52, true)), .mv (.t 6)⟩,
    ⟨(some 54), 864, (some (52, true)), .bi false .eql (.t 53) (.c (.int .i64 0))⟩,
    ⟨(some 55), 880, none, .pick (.t 52) (.t 54) (.c (.bool false))⟩,
    ⟨(some 56), 896, none, .mv (.t 55)⟩,
    ⟨(some 57), 912, (some (56, true)), .mv (.t 9)⟩,
    ⟨(some 58), 928, (some (56, true)), .bi false .eql (.t 57) (.c (.int .i64 0))⟩,
    ⟨(some 59), 944, none, .pick (.t 56) (.t 58) (.c (.bool false))⟩,
    ⟨(some 60), 960, none, .mv (.t 59)⟩,
    ⟨(some 61), 976, (some (60, true)), .mv (.t 8)⟩,
    ⟨(some 62), 992, (some (60, true)), .bi false .eql (.t 61) (.c (.int .i64 0))⟩,
    ⟨(some 63), 1008, none, .pick (.t 60) (.t 62) (.c (.bool false))⟩,
    ⟨(some 64), 1024, none, .mv (.t 63)⟩,
    ⟨(some 65), 1040, (some (64, true)), .mv (.t 7)⟩,
    ⟨(some 66), 1056, (some (64, true)), .len (.t 65)⟩,
    ⟨(some 67), 1072, (some (64, true)), .bi false .eql (.t 66) (.c (.int .i64 2))⟩,
    ⟨(some 68), 1088, none, .pick (.t 64) (.t 67) (.c (.bool false))⟩,
    ⟨(some 69), 1104, none, .mv (.t 68)⟩,
    ⟨(some 70), 1120, (some (69, true)), .mv (.t 7)⟩,
    ⟨(some 71), 1136, (some (69, true)), .ia 4 (.t 70) (.c (.int .i64 0))⟩,
    ⟨(some 72), 1152, (some (69, true)), .ld 4 true (.t 71)⟩,
    ⟨(some 73), 1168, (some (69, true)), .mv (.t 1)⟩,
    ⟨(some 74), 1184, (some (69, true)), .ia 4 (.t 73) (.c (.int .i64 0))⟩,
    ⟨(some 75), 1200, (some (69, true)), .ld 4 true (.t 74)⟩,
    ⟨(some 76), 1216, (some (69, true)), .eqa false [0, 0, 0, 0] (.t 72) (.t 75)⟩,
    ⟨(some 77), 1232, none, .pick (.t 69) (.t 76) (.c (.bool false))⟩,
    ⟨(some 78), 1248, none, .mv (.t 77)⟩,
    ⟨(some 79), 1264, (some (78, true)), .mv (.t 12)⟩,
    ⟨(some 80), 1280, (some (78, true)), .bi false .eql (.t 79) (.c (.int .i64 7))⟩,
    ⟨(some 81), 1296, none, .pick (.t 78) (.t 80) (.c (.bool false))⟩,
    ⟨(some 82), 1312, none, .mv (.t 81)⟩,
    ⟨(some 83), 1328, (some (82, true)), .mv (.t 11)⟩,
    ⟨(some 84), 1344, (some (82, true)), .bi false .eql (.t 83) (.c (.int .i64 1))⟩,
    ⟨(some 85), 1360, none, .pick (.t 82) (.t 84) (.c (.bool false))⟩,
    ⟨(some 86), 1376, none, .mv (.t 85)⟩,
    ⟨(some 87), 1392, (some (86, true)), .mv (.t 5)⟩,
    ⟨(some 88), 1408, (some (86, true)), .bi false .eql (.t 87) (.c (.str [115, 116, 101, 112, 32, 51, 32, 115, 105, 116, 101, 32, 48, 32, 99, 111, 110, 100, 105, 116, 105, 111, 110, 32, 49, 32, 98, 121, 32, 98, 111, 117, 110, 100, 115, 10, 115, 116, 101, 112, 32, 52, 32, 115, 105, 116, 101, 32, 48, 32, 99, 111, 110, 100, 105, 116, 105, 111, 110, 32, 49, 32, 98, 121, 32, 48, 10]))⟩,
    ⟨(some 89), 1424, none, .pick (.t 86) (.t 88) (.c (.bool false))⟩,
    ⟨(some 0), 0, none, .mv (.t 89)⟩]
    [(6, 7, 46), (6, 8, 46), (6, 9, 46), (30, 33, 70), (30, 34, 70), (30, 35, 70), (31, 33, 71), (31, 34, 71), (31, 35, 71), (32, 33, 72), (32, 34, 72), (32, 35, 72)])
  .ret)))))))
theorem fits7 : fits Tryd.prog false Tryd.f7 0 90 [(0, none)] = some c7.er := by kernel_rfl

def s3 : List Vi := [⟨3, 0, 1, -1⟩, ⟨4, 0, 1, 0⟩, ⟨5, 0, 1, -2⟩]
def s2 : List Vi := [⟨3, 0, 1, -1⟩, ⟨4, 0, 1, 0⟩]
def snT : List UInt8 := [115, 116, 101, 112, 32, 51, 32, 115, 105, 116, 101, 32, 48, 32, 99, 111, 110, 100, 105, 116, 105, 111, 110, 32, 49, 32, 98, 121, 32, 98, 111, 117, 110, 100, 115, 10, 115, 116, 101, 112, 32, 52, 32, 115, 105, 116, 101, 32, 48, 32, 99, 111, 110, 100, 105, 116, 105, 111, 110, 32, 49, 32, 98, 121, 32, 48, 10]
def snB : List UInt8 := [115, 116, 101, 112, 32, 49, 32, 115, 105, 116, 101, 32, 48, 32, 99, 111, 110, 100, 105, 116, 105, 111, 110, 32, 50, 32, 98, 121, 32, 120, 10]
theorem s3_best : bestF s3 3 = (⟨3, 0, 1, -1⟩, 3) := by
  have h1 : (bestF s3 3).1 = ⟨3, 0, 1, -1⟩ := by decide +kernel
  have h2 : (bestF s3 3).2 = 3 := by decide +kernel
  rw [← h1, ← h2]
theorem s2_fmt : formatV s2 = (snT, 0) := by decide +kernel
theorem s2_parse : parseV snT = (s2, 0, 0) := by decide +kernel
theorem sB_parse : parseV snB = ([], 1, 7) := by decide +kernel
theorem s3_rows : RowEq 3 (fun i => [eVi ⟨3, 0, 1, -1⟩, eVi ⟨4, 0, 1, 0⟩, eVi ⟨5, 0, 1, -2⟩].getD i []) (fl eVi s3) := fun i hi => by
  match i, hi with
  | 0, _ => rfl
  | 1, _ => rfl
  | 2, _ => rfl
theorem s3_V : ∀ i, i < s3.length → -9223372036854775808 ≤ (s3.getD i default).t ∧ (s3.getD i default).t ≤ 9223372036854775807 := fun i hi => by
  match i, hi with
  | 0, _ => decide
  | 1, _ => decide
  | 2, _ => decide
theorem s2_V : ∀ i, i < s2.length → V64 (s2.getD i default) := fun i hi => by
  match i, hi with
  | 0, _ => unfold V64 s2; decide
  | 1, _ => unfold V64 s2; decide

set_option maxRecDepth 100000 in
set_option maxHeartbeats 16000000 in
theorem call7 : PureCall Tryd.prog 7 [] [] ⟨.bool true, [], []⟩ := by
  refine pure_call mix Tryd.func7 fits7 rfl ?_
  conv => whnf
  refine ⟨_, fun _ => PureCall.arg_le (call16 2 s3 (by decide) s3_V) rfl (by
    all_goals repeat' (first | exact True.intro | refine leF_cons rfl ?_ ?_ | refine leS_cons rfl ?_ ?_ | (show PLe _ _ _ _; conv => whnf) | (show SLe _ _ _ _; conv => whnf) | (show PLeL _ _ _ _; conv => whnf) | apply And.intro | rfl | exact Nat.le_refl _ | exact fun _ _ => rfl | exact rowEq0 _ _)
    all_goals first | exact s3_rows | skip), ?_⟩
  rw [show s3.length = 3 from rfl, s3_best]
  conv => whnf
  refine ⟨_, fun _ => PureCall.arg_le (call15 2 s2 (by decide) s2_V) rfl (by
    all_goals repeat' (first | exact True.intro | refine leF_cons rfl ?_ ?_ | refine leS_cons rfl ?_ ?_ | (show PLe _ _ _ _; conv => whnf) | (show SLe _ _ _ _; conv => whnf) | (show PLeL _ _ _ _; conv => whnf) | apply And.intro | rfl | exact Nat.le_refl _ | exact fun _ _ => rfl | exact rowEq0 _ _)
    all_goals first | (intro i hi; match i, hi with | 0, _ => rfl | 1, _ => rfl) | skip), ?_⟩
  rw [s2_fmt]
  conv => whnf
  refine ⟨_, fun _ => call12 snT (by decide), ?_⟩
  rw [s2_parse]
  conv => whnf
  refine ⟨_, fun _ => call12 snB (by decide), ?_⟩
  rw [sB_parse]
  conv => whnf
  refine ⟨rfl, ?_⟩
  conv => whnf
  refine ⟨?_, [], ?_⟩
  · (try conv => whnf)
    (repeat' (first | exact True.intro | exact fun _ h => h | refine inR64_of ?_ ?_ | apply And.intro | refine maxLen_ge ?_)) <;> (first | omega | decide | (dsimp only; omega) | (dsimp only [List.length_cons, List.length_nil]; omega) | (intro hg; rw [hg]; rfl) | (intro hg hh; rw [hg, hh]; rfl) | (intro hg; simp [-List.getD_eq_getElem?_getD, -Int.default_eq_zero] at hg; first | omega | (refine inR64_of ?_ ?_ <;> omega) | (constructor <;> omega)) | (simp [-List.getD_eq_getElem?_getD, -Int.default_eq_zero]; done))
  conv => whnf
  refine ⟨rfl, ?_, trivial, trivial⟩
  all_goals repeat' (first | exact True.intro | refine leF_cons rfl ?_ ?_ | refine leS_cons rfl ?_ ?_ | (show PLe _ _ _ _; conv => whnf) | (show SLe _ _ _ _; conv => whnf) | (show PLeL _ _ _ _; conv => whnf) | apply And.intro | rfl | exact Nat.le_refl _ | exact fun _ _ => rfl | exact rowEq0 _ _)
end Pv
end Go.Proofs.YtafnkpmoolbjjaaDoor

/- LAW 42: ReportLongest answers true. -/
set_option linter.unusedSimpArgs false
set_option linter.unusedVariables false
namespace Go.Proofs.YtafnkpmoolbjjaaDoor
namespace Pv
def c5L1 : C := (.seq (.seq (.reg [⟨(some 47), 752, none, .mv (.t 7)⟩,
    ⟨(some 48), 768, none, .mv (.t 5)⟩,
    ⟨(some 49), 784, none, .bi false .lss (.t 47) (.t 48)⟩])
  (.cond (.t 49) .skip (.exit 0)))
  (.seq (.block 1 (.seq (.reg [⟨(some 52), 832, none, .mv (.t 3)⟩,
    ⟨(some 53), 848, none, .ld 4 true (.t 4)⟩,
    ⟨(some 54), 864, none, .fa 0 (.t 4)⟩,
    ⟨(some 55), 880, none, .ld 1 false (.t 54)⟩,
    ⟨(some 56), 896, none, .mv (.t 7)⟩,
    ⟨(some 57), 912, none, .bi false .add (.t 55) (.t 56)⟩,
    ⟨(some 58), 928, none, .call (.c (.fn (.func 17) [] [])) [(.t 52), (.t 53), (.t 57)]⟩,
    ⟨(some 59), 944, none, .un false .not (.t 58)⟩])
  (.cond (.t 59) (.seq (.reg [⟨(some 2), 32, none, .mv (.c (.bool false))⟩])
  .ret) .skip)))
  (.reg [⟨(some 50), 800, none, .mv (.t 7)⟩,
    ⟨(some 51), 816, none, .bi false .add (.t 50) (.c (.int .i64 1))⟩,
    ⟨(some 7), 112, none, .mv (.t 51)⟩])))
def c5L3 : C := (.seq (.seq (.reg [⟨(some 66), 1056, none, .mv (.t 3)⟩,
    ⟨(some 67), 1072, none, .ld 4 true (.t 9)⟩,
    ⟨(some 68), 1088, none, .fa 0 (.t 9)⟩,
    ⟨(some 69), 1104, none, .ld 1 false (.t 68)⟩,
    ⟨(some 70), 1120, none, .mv (.t 10)⟩,
    ⟨(some 71), 1136, none, .bi false .add (.t 69) (.t 70)⟩,
    ⟨(some 72), 1152, none, .call (.c (.fn (.func 17) [] [])) [(.t 66), (.t 67), (.t 71)]⟩])
  (.cond (.t 72) .skip (.exit 4)))
  (.block 5 (.reg [⟨(some 73), 1168, none, .mv (.t 10)⟩,
    ⟨(some 74), 1184, none, .bi false .add (.t 73) (.c (.int .i64 1))⟩,
    ⟨(some 10), 160, none, .mv (.t 74)⟩])))
def c5L2 : C := (.seq (.reg [⟨(some 63), 1008, none, .bi false .lss (.t 62) (.t 61)⟩])
  (.seq (.cond (.t 63) .skip (.exit 2))
  (.seq (.block 3 (.seq (.reg [⟨(some 64), 1024, none, .ia 4 (.t 60) (.t 62)⟩,
    ⟨(some 65), 1040, none, .ld 4 true (.t 64)⟩,
    ⟨(some 9), 144, none, .al [(.int .i64 0), (.int .i64 0), (.int .i64 0), (.int .i64 0)]⟩,
    ⟨none, 0, none, .st 4 (.t 9) (.t 65)⟩])
  (.seq (.reg [⟨(some 10), 160, none, .mv (.c (.int .i64 0))⟩])
  (.seq (.block 4 (.loop c5L3))
  (.seq (.reg [⟨(some 75), 1200, none, .mv (.t 10)⟩,
    ⟨(some 76), 1216, none, .mv (.t 5)⟩,
    ⟨(some 77), 1232, none, .bi false .gtr (.t 75) (.t 76)⟩])
  (.cond (.t 77) (.seq (.reg [⟨(some 2), 32, none, .mv (.c (.bool false))⟩])
  .ret) .skip))))))
  (.reg [⟨(some 78), 1248, none, .bi false .add (.t 62) (.c (.int .i64 1))⟩,
    ⟨(some 62), 992, none, .mv (.t 78)⟩]))))
def c5 : C := (.seq (.reg [⟨(some 2), 32, none, .mv (.c (.bool false))⟩])
  (.seq (.seq (.reg [⟨(some 11), 176, none, .call (.c (.fn (.func 7) [] [])) []⟩,
    ⟨(some 12), 192, none, .un false .not (.t 11)⟩])
  (.cond (.t 12) (.seq (.reg [⟨(some 2), 32, none, .mv (.c (.bool false))⟩])
  .ret) .skip))
  (.seq (.seq (.reg [⟨(some 13), 208, none, .mv (.t 0)⟩,
    ⟨(some 14), 224, none, .call (.c (.fn (.func 8) [] [])) [(.t 13)]⟩,
    ⟨(some 15), 240, none, .un false .not (.t 14)⟩])
  (.cond (.t 15) (.seq (.reg [⟨(some 2), 32, none, .mv (.c (.bool true))⟩])
  .ret) .skip))
  (.seq (.reg [⟨(some 16), 256, none, .mv (.t 0)⟩,
    ⟨(some 17), 272, none, .call (.c (.fn (.func 10) [] [])) [(.t 16)]⟩,
    ⟨(some 18), 288, none, .call (.c (.fn (.func 9) [] [])) [(.t 17), (.c (.nil 1))]⟩,
    ⟨(some 3), 48, none, .mv (.t 18)⟩])
  (.seq (.reg [⟨(some 20), 320, none, .mv (.t 3)⟩,
    ⟨(some 21), 336, none, .call (.c (.fn (.func 16) [] [])) [(.t 20)]⟩,
    ⟨(some 19), 304, none, .mv (.t 21)⟩,
    ⟨(some 22), 352, none, .ex (.t 19) 0⟩,
    ⟨(some 23), 368, none, .ex (.t 19) 1⟩,
    ⟨(some 24), 384, none, .ex (.t 19) 2⟩,
    ⟨(some 4), 64, none, .al [(.int .i64 0), (.int .i64 0), (.int .i64 0), (.int .i64 0)]⟩,
    ⟨none, 0, none, .st 4 (.t 4) (.t 22)⟩,
    ⟨(some 5), 80, none, .mv (.t 23)⟩,
    ⟨(some 6), 96, none, .mv (.t 24)⟩])
  (.seq (.seq (.reg [⟨(some 25), 400, none, .mv (.t 6)⟩,
    ⟨(some 26), 416, none, .mv (.t 3)⟩,
    ⟨(some 27), 432, none, .len (.t 26)⟩,
    ⟨(some 28), 448, none, .bi false .gtr (.t 27) (.c (.int .i64 0))⟩,
    ⟨(some 29), 464, none, .bib true (.t 25) (.t 28)⟩,
    ⟨(some 30), 480, none, .mv (.t 29)⟩,
    ⟨(some 31), 496, (some (30, false)), .mv (.t 5)⟩,
    ⟨(some 32), 512, (some (30, false)), .bi false .lss (.t 31) (.c (.int .i64 0))⟩,
    ⟨(some 33), 528, none, .pick (.t 30) (.c (.bool true)) (.t 32)⟩,
    ⟨(some 34), 544, none, .mv (.t 33)⟩,
    ⟨(some 35), 560, (some (34, false)), .mv (.t 5)⟩,
    ⟨(some 36), 576, (some (34, false)), .mv (.t 3)⟩,
    ⟨(some 37), 592, (some (34, false)), .len (.t 36)⟩,
    ⟨(some 38), 608, (some (34, false)), .bi false .gtr (.t 35) (.t 37)⟩,
    ⟨(some 39), 624, none, .pick (.t 34) (.c (.bool true)) (.t 38)⟩,
    ⟨(some 40), 640, none, .mv (.t 39)⟩,
    ⟨(some 41), 656, (some (40, false)), .mv (.t 6)⟩,
    ⟨(some 42), 672, (some (40, false)), .mv (.t 41)⟩,
    ⟨(some 43), 688, (some (42, true)), .mv (.t 5)⟩,
    ⟨(some 44), 704, (some (42, true)), .bi false .lss (.t 43) (.c (.int .i64 1))⟩,
    ⟨(some 45), 720, (some (40, false)), .pick (.t 42) (.t 44) (.c (.bool false))⟩,
    ⟨(some 46), 736, none, .pick (.t 40) (.c (.bool true)) (.t 45)⟩])
  (.cond (.t 46) (.seq (.reg [⟨(some 2), 32, none, .mv (.c (.bool false))⟩])
  .ret) .skip))
  (.seq (.seq (.reg [⟨(some 7), 112, none, .mv (.c (.int .i64 0))⟩])
  (.block 0 (.loop c5L1)))
  (.seq (.seq (.reg [⟨(some 60), 960, none, .mv (.t 3)⟩,
    ⟨(some 61), 976, none, .len (.t 60)⟩,
    ⟨(some 62), 992, none, .mv (.c (.int .i64 0))⟩])
  (.block 2 (.loop c5L2)))
  (.seq (.reg [⟨(some 2), 32, none, .mv (.c (.bool true))⟩])
  .ret)))))))))
theorem fits5 : fits Tryd.prog false Tryd.f5 1 79 [(2, none)] = some c5.er := by kernel_rfl

theorem runL_all (l : List Vi) (s c : Int) : ∀ (n : Nat) (t : Int) (i : Nat), i < runL l s c n t → inV l (t + i) s c = true
  | 0, _, i, h => absurd h (Nat.not_lt_zero _)
  | n + 1, t, i, h => by
    unfold runL at h
    split at h
    · rename_i hin
      cases i with
      | zero => simpa using hin
      | succ i =>
        split at h
        · omega
        · have := runL_all l s c n (t + 1) i (by omega)
          rw [show t + ((i + 1 : Nat) : Int) = t + 1 + i by omega]; exact this
    · exact absurd h (Nat.not_lt_zero _)
theorem runV_all {l : List Vi} {t s c : Int} {i : Nat} (h : i < runV l t s c) : inV l (t + i) s c = true := runL_all l s c _ t i h
theorem runV_le (l : List Vi) (t s c : Int) : runV l t s c ≤ l.length := inV_run fun _ h => runV_all h
theorem bestF_mem {l : List Vi} : ∀ {i : Nat}, i ≤ l.length → 0 < (bestF l i).2 → (bestF l i).1 ∈ l ∧ (bestF l i).2 = runV l (bestF l i).1.t (bestF l i).1.s (bestF l i).1.c
  | 0, _, h => absurd h (by simp [bestF])
  | i + 1, hi, h => by
    rw [bestF_push (by omega)] at h ⊢
    unfold bestS at h ⊢
    split
    · exact ⟨getD_mem (by omega), rfl⟩
    · rename_i hn
      rw [if_neg hn] at h
      exact bestF_mem (by omega) h
theorem bestF_max {l : List Vi} : ∀ {i : Nat}, i ≤ l.length → ∀ k, k < i → (runV l (l.getD k default).t (l.getD k default).s (l.getD k default).c : Int) ≤ (bestF l i).2
  | 0, _, k, h => absurd h (Nat.not_lt_zero _)
  | i + 1, hi, k, h => by
    rw [bestF_push (by omega)]
    have ih := bestF_max (l := l) (i := i) (by omega) k
    unfold bestS
    by_cases hk : k = i
    · subst hk
      split
      · exact Int.le_refl _
      · omega
    · have := ih (by omega)
      split
      · dsimp only; omega
      · exact this

set_option maxRecDepth 100000 in
set_option maxHeartbeats 16000000 in
theorem call5 (t0 : List Int) : PureCall Tryd.prog 5 [.sl 1 1 t0.length (fl eInt t0)] [] ⟨.bool true, [], []⟩ := by
  refine pure_call mix Tryd.func5 fits5 rfl ?_
  conv => whnf
  refine ⟨_, fun _ => call7, ?_⟩
  conv => whnf
  refine ⟨?_, fun hc => (by cases hc), fun _ => ?_⟩
  · (try conv => whnf)
    (repeat' (first | exact True.intro | exact fun _ h => h | refine inR64_of ?_ ?_ | apply And.intro | refine maxLen_ge ?_)) <;> (first | omega | decide | (dsimp only; omega) | (dsimp only [List.length_cons, List.length_nil]; omega) | (intro hg; rw [hg]; rfl) | (intro hg hh; rw [hg, hh]; rfl) | (intro hg; simp [-List.getD_eq_getElem?_getD, -Int.default_eq_zero] at hg; first | omega | (refine inR64_of ?_ ?_ <;> omega) | (constructor <;> omega)) | (simp [-List.getD_eq_getElem?_getD, -Int.default_eq_zero]; done))
  conv => whnf
  refine ⟨_, fun _ => call8 1 t0, ?_⟩
  conv => whnf
  refine ⟨?_, fun hc => ?_, fun hc => ?_⟩
  · (try conv => whnf)
    (repeat' (first | exact True.intro | exact fun _ h => h | refine inR64_of ?_ ?_ | apply And.intro | refine maxLen_ge ?_)) <;> (first | omega | decide | (dsimp only; omega) | (dsimp only [List.length_cons, List.length_nil]; omega) | (intro hg; rw [hg]; rfl) | (intro hg hh; rw [hg, hh]; rfl) | (intro hg; simp [-List.getD_eq_getElem?_getD, -Int.default_eq_zero] at hg; first | omega | (refine inR64_of ?_ ?_ <;> omega) | (constructor <;> omega)) | (simp [-List.getD_eq_getElem?_getD, -Int.default_eq_zero]; done))
  · conv => whnf
    refine ⟨?_, [], ?_⟩
    · (try conv => whnf)
      (repeat' (first | exact True.intro | exact fun _ h => h | refine inR64_of ?_ ?_ | apply And.intro | refine maxLen_ge ?_)) <;> (first | omega | decide | (dsimp only; omega) | (dsimp only [List.length_cons, List.length_nil]; omega) | (intro hg; rw [hg]; rfl) | (intro hg hh; rw [hg, hh]; rfl) | (intro hg; simp [-List.getD_eq_getElem?_getD, -Int.default_eq_zero] at hg; first | omega | (refine inR64_of ?_ ?_ <;> omega) | (constructor <;> omega)) | (simp [-List.getD_eq_getElem?_getD, -Int.default_eq_zero]; done))
    conv => whnf
    refine ⟨rfl, ?_, trivial, trivial⟩
    all_goals repeat' (first | exact True.intro | refine leF_cons rfl ?_ ?_ | refine leS_cons rfl ?_ ?_ | (show PLe _ _ _ _; conv => whnf) | (show SLe _ _ _ _; conv => whnf) | (show PLeL _ _ _ _; conv => whnf) | apply And.intro | rfl | exact Nat.le_refl _ | exact fun _ _ => rfl | exact rowEq0 _ _)
  clear hc
  conv => whnf
  refine ⟨_, fun _ => call_new 1 t0, ?_⟩
  conv => whnf
  refine ⟨_, fun _ => PureCall.arg_le (call9 0 0 [] ⟨t0, 0⟩ (by dsimp only; omega) (by decide) (fun i hi => absurd hi (Nat.not_lt_zero _))) rfl (by
    all_goals repeat' (first | exact True.intro | refine leF_cons rfl ?_ ?_ | refine leS_cons rfl ?_ ?_ | (show PLe _ _ _ _; conv => whnf) | (show SLe _ _ _ _; conv => whnf) | (show PLeL _ _ _ _; conv => whnf) | apply And.intro | rfl | exact Nat.le_refl _ | exact fun _ _ => rfl | exact rowEq0 _ _)
    all_goals skip), ?_⟩
  have hvf := vioF_ok (C := []) (fun i hi => absurd hi (Nat.not_lt_zero _)) ⟨t0, 0⟩
  generalize vioF [] ⟨t0, 0⟩ = W at hvf ⊢
  obtain ⟨l, d⟩ := W
  obtain ⟨hl, hg, _⟩ := hvf
  dsimp only at hl hg
  have hmax := bestF_max (Nat.le_refl l.length)
  have hmem := bestF_mem (Nat.le_refl l.length)
  have hpos := bestF_pos (Nat.le_refl l.length)
  conv => whnf
  refine ⟨_, fun _ => call16 1 l (by omega) (fun i hi => by have := (hg i hi).1; omega), ?_⟩
  generalize bestF l l.length = B at hmax hmem hpos ⊢
  obtain ⟨v, n⟩ := B
  dsimp only at hmax hmem hpos
  have hvt : 0 < n → 0 ≤ v.t ∧ v.t ≤ 8 := fun h => by
    obtain ⟨i, hi, he⟩ := List.mem_iff_getElem.1 (hmem h).1
    have := (hg i hi).1
    simp only [List.getD, List.getElem?_eq_getElem hi, Option.getD_some, he] at this
    exact this
  have hnl : n ≤ l.length := by
    by_cases h : 0 < n
    · have h1 := (hmem h).2
      have h2 := runV_le l v.t v.s v.c
      omega
    · omega
  conv => whnf
  refine ⟨?_, fun hc => ?_, fun hc => ?_⟩
  · (try conv => whnf)
    (repeat' (first | exact True.intro | exact fun _ h => h | refine inR64_of ?_ ?_ | apply And.intro | refine maxLen_ge ?_)) <;> (first | omega | decide | (dsimp only; omega) | (dsimp only [List.length_cons, List.length_nil]; omega) | (intro hg; rw [hg]; rfl) | (intro hg hh; rw [hg, hh]; rfl) | (intro hg; simp [-List.getD_eq_getElem?_getD, -Int.default_eq_zero] at hg; first | omega | (refine inR64_of ?_ ?_ <;> omega) | (constructor <;> omega)) | (simp [-List.getD_eq_getElem?_getD, -Int.default_eq_zero]; done))
  · exfalso
    have hc : (bif bif bif (decide (0 < n) != decide (0 < (l.length : Int))) then true else decide (n < 0) then true else decide ((l.length : Int) < n) then true else bif decide (0 < n) then decide (n < 1) else false) = true := hc
    have h0 : decide (0 < n) = decide (0 < (l.length : Int)) := by
      by_cases h : 0 < l.length
      · rw [decide_eq_true (hpos.2 h), decide_eq_true (by omega)]
      · rw [decide_eq_false (p := 0 < (l.length : Int)) (by omega), decide_eq_false (by omega)]
    rw [h0] at hc
    rw [show (decide (0 < (l.length : Int)) != decide (0 < (l.length : Int))) = false by simp, ← h0] at hc
    simp only [bif_t, bif_f, decide_eq_true_eq, decide_eq_false_iff_not, Bool.not_eq_true', Bool.not_eq_false', Bool.and_eq_true, Bool.or_eq_true, Bool.and_eq_false_iff, Bool.or_eq_false_iff, beq_iff_eq, bne_iff_ne, beq_eq_false_iff_ne, bne_eq_false_iff_eq, reduceCtorEq, false_and, and_false, true_and, and_true, or_false, false_or, or_true, true_or, not_true_eq_false, not_false_eq_true, Int.toNat_zero] at hc
    omega
  clear hc
  conv => whnf
  refine ⟨?_, ?_⟩
  · (try conv => whnf)
    (repeat' (first | exact True.intro | exact fun _ h => h | refine inR64_of ?_ ?_ | apply And.intro | refine maxLen_ge ?_)) <;> (first | omega | decide | (dsimp only; omega) | (dsimp only [List.length_cons, List.length_nil]; omega) | (intro hg; rw [hg]; rfl) | (intro hg hh; rw [hg, hh]; rfl) | (intro hg; simp [-List.getD_eq_getElem?_getD, -Int.default_eq_zero] at hg; first | omega | (refine inR64_of ?_ ?_ <;> omega) | (constructor <;> omega)) | (simp [-List.getD_eq_getElem?_getD, -Int.default_eq_zero]; done))
  obtain ⟨N, hN⟩ : ∃ N : Nat, (N : Int) = n := ⟨n.toNat, by omega⟩
  refine LSem.loop (n := 79) mix (α := Nat) (fun k => k ≤ N)
    (fun k => [(3, .sl 0 4 l.length (fl eVi l)), (4, .pt 64 0 0), (5, .int .i64 N), (7, .int .i64 k)])
    (fun k => [(64, .box (eVi v))]) (fun k => N - k) 0 ?_ ?_ ?_
  · exact Nat.zero_le _
  · refine ⟨rfl, rfl, ?_, ?_⟩
    all_goals repeat' (first | exact True.intro | refine leF_cons rfl ?_ ?_ | refine leS_cons rfl ?_ ?_ | (show PLe _ _ _ _; conv => whnf) | (show SLe _ _ _ _; conv => whnf) | (show PLeL _ _ _ _; conv => whnf) | apply And.intro | rfl | exact Nat.le_refl _ | exact fun _ _ => rfl | exact rowEq0 _ _)
    all_goals first | exact hN.symm | skip
  · intro k hk
    conv => whnf
    refine ⟨trivial, fun hc => ?_, fun hc => ?_⟩
    · have hkn : k < N := by
        have h : (k : Int) < N := of_decide_eq_true hc
        omega
      have hm := hmem (by omega)
      have hr := hvt (by omega)
      have hin : inV l (v.t + k) v.s v.c = true := runV_all (by omega)
      conv => whnf
      refine ⟨_, fun _ => call17 _ l v (v.t + k) (by omega), ?_⟩
      rw [hin]
      conv => whnf
      refine ⟨?_, fun hc => (by cases hc), fun _ => ?_⟩
      · (try conv => whnf)
        (repeat' (first | exact True.intro | exact fun _ h => h | refine inR64_of ?_ ?_ | apply And.intro | refine maxLen_ge ?_)) <;> (first | omega | decide | (dsimp only; omega) | (dsimp only [List.length_cons, List.length_nil]; omega) | (intro hg; rw [hg]; rfl) | (intro hg hh; rw [hg, hh]; rfl) | (intro hg; simp [-List.getD_eq_getElem?_getD, -Int.default_eq_zero] at hg; first | omega | (refine inR64_of ?_ ?_ <;> omega) | (constructor <;> omega)) | (simp [-List.getD_eq_getElem?_getD, -Int.default_eq_zero]; done))
      conv => whnf
      refine ⟨?_, k + 1, hkn, by omega, rfl, rfl, ?_, ?_⟩
      · (try conv => whnf)
        (repeat' (first | exact True.intro | exact fun _ h => h | refine inR64_of ?_ ?_ | apply And.intro | refine maxLen_ge ?_)) <;> (first | omega | decide | (dsimp only; omega) | (dsimp only [List.length_cons, List.length_nil]; omega) | (intro hg; rw [hg]; rfl) | (intro hg hh; rw [hg, hh]; rfl) | (intro hg; simp [-List.getD_eq_getElem?_getD, -Int.default_eq_zero] at hg; first | omega | (refine inR64_of ?_ ?_ <;> omega) | (constructor <;> omega)) | (simp [-List.getD_eq_getElem?_getD, -Int.default_eq_zero]; done))
      all_goals repeat' (first | exact True.intro | refine leF_cons rfl ?_ ?_ | refine leS_cons rfl ?_ ?_ | (show PLe _ _ _ _; conv => whnf) | (show SLe _ _ _ _; conv => whnf) | (show PLeL _ _ _ _; conv => whnf) | apply And.intro | rfl | exact Nat.le_refl _ | exact fun _ _ => rfl | exact rowEq0 _ _)
      all_goals first | omega | skip
    · clear hc
      conv => whnf
      refine ⟨trivial, ?_⟩
      refine LSem.loop (n := 79) mix (α := Nat) (fun i => i ≤ l.length)
        (fun i => [(3, .sl 0 4 l.length (fl eVi l)), (5, .int .i64 N), (60, .sl 0 4 l.length (fl eVi l)), (61, .int .i64 l.length), (62, .int .i64 i)])
        (fun i => []) (fun i => l.length - i) 0 ?_ ?_ ?_
      · exact Nat.zero_le _
      · refine ⟨rfl, rfl, ?_, ?_⟩
        all_goals repeat' (first | exact True.intro | refine leF_cons rfl ?_ ?_ | refine leS_cons rfl ?_ ?_ | (show PLe _ _ _ _; conv => whnf) | (show SLe _ _ _ _; conv => whnf) | (show PLeL _ _ _ _; conv => whnf) | apply And.intro | rfl | exact Nat.le_refl _ | exact fun _ _ => rfl | exact rowEq0 _ _)
        all_goals skip
      · intro i hi
        have hj : ((i : Int)).toNat = i := by omega
        conv => whnf
        refine ⟨trivial, fun hc => ?_, fun hc => ?_⟩
        · replace hc := of_decide_eq_true hc
          have hlt : i < l.length := by
            have h : (i : Int) < l.length := hc
            omega
          have hxm := hmax i hlt
          have hxg := (hg i hlt).1
          conv => whnf
          rw [hj]
          generalize l.getD i default = x at hxm hxg ⊢
          refine ⟨?_, ?_⟩
          · (try conv => whnf)
            (repeat' (first | exact True.intro | exact fun _ h => h | refine inR64_of ?_ ?_ | apply And.intro | refine maxLen_ge ?_)) <;> (first | omega | decide | (dsimp only; omega) | (dsimp only [List.length_cons, List.length_nil]; omega) | (intro hg; rw [hg]; rfl) | (intro hg hh; rw [hg, hh]; rfl) | (intro hg; simp [-List.getD_eq_getElem?_getD, -Int.default_eq_zero] at hg; first | omega | (refine inR64_of ?_ ?_ <;> omega) | (constructor <;> omega)) | (simp [-List.getD_eq_getElem?_getD, -Int.default_eq_zero]; done))
          refine LSem.loop (n := 79) mix (α := Nat) (fun m => (∀ q : Nat, q < m → inV l (x.t + q) x.s x.c = true) ∧ m + runL l x.s x.c (l.length + 1 - m) (x.t + m) = runV l x.t x.s x.c)
            (fun m => [(3, .sl 0 4 l.length (fl eVi l)), (5, .int .i64 N), (9, .pt 144 0 0), (10, .int .i64 m), (60, .sl 0 4 l.length (fl eVi l)), (61, .int .i64 l.length), (62, .int .i64 i)])
            (fun m => [(144, .box (eVi x))]) (fun m => l.length + 1 - m) 0 ?_ ?_ ?_
          · exact ⟨fun q hq => absurd hq (Nat.not_lt_zero _), by simp [runV]⟩
          · refine ⟨rfl, rfl, ?_, ?_⟩
            all_goals repeat' (first | exact True.intro | refine leF_cons rfl ?_ ?_ | refine leS_cons rfl ?_ ?_ | (show PLe _ _ _ _; conv => whnf) | (show SLe _ _ _ _; conv => whnf) | (show PLeL _ _ _ _; conv => whnf) | apply And.intro | rfl | exact Nat.le_refl _ | exact fun _ _ => rfl | exact rowEq0 _ _)
            all_goals skip
          · intro m hm
            obtain ⟨hm1, hm2⟩ := hm
            have hml := inV_run hm1
            obtain ⟨p, hp⟩ : ∃ p, l.length + 1 - m = p + 1 := ⟨l.length - m, by omega⟩
            rw [hp] at hm2
            unfold runL at hm2
            conv => whnf
            refine ⟨_, fun _ => call17 _ l x (x.t + m) (by omega), ?_⟩
            generalize hI : inV l (x.t + m) x.s x.c = I at hm2
            cases I with
            | true =>
              rw [if_pos rfl, if_neg (by omega)] at hm2
              conv => whnf
              refine ⟨?_, fun _ => ?_, fun hc => (by cases hc)⟩
              · (try conv => whnf)
                (repeat' (first | exact True.intro | exact fun _ h => h | refine inR64_of ?_ ?_ | apply And.intro | refine maxLen_ge ?_)) <;> (first | omega | decide | (dsimp only; omega) | (dsimp only [List.length_cons, List.length_nil]; omega) | (intro hg; rw [hg]; rfl) | (intro hg hh; rw [hg, hh]; rfl) | (intro hg; simp [-List.getD_eq_getElem?_getD, -Int.default_eq_zero] at hg; first | omega | (refine inR64_of ?_ ?_ <;> omega) | (constructor <;> omega)) | (simp [-List.getD_eq_getElem?_getD, -Int.default_eq_zero]; done))
              conv => whnf
              refine ⟨?_, m + 1, ⟨fun q hq => ?_, ?_⟩, by omega, rfl, rfl, ?_, ?_⟩
              · (try conv => whnf)
                (repeat' (first | exact True.intro | exact fun _ h => h | refine inR64_of ?_ ?_ | apply And.intro | refine maxLen_ge ?_)) <;> (first | omega | decide | (dsimp only; omega) | (dsimp only [List.length_cons, List.length_nil]; omega) | (intro hg; rw [hg]; rfl) | (intro hg hh; rw [hg, hh]; rfl) | (intro hg; simp [-List.getD_eq_getElem?_getD, -Int.default_eq_zero] at hg; first | omega | (refine inR64_of ?_ ?_ <;> omega) | (constructor <;> omega)) | (simp [-List.getD_eq_getElem?_getD, -Int.default_eq_zero]; done))
              · rcases Nat.lt_or_ge q m with h | h
                · exact hm1 q h
                · rw [show q = m by omega]; exact hI
              · rw [← hm2, show l.length + 1 - (m + 1) = p by omega, show x.t + ((m + 1 : Nat) : Int) = x.t + m + 1 by omega]; omega
              all_goals repeat' (first | exact True.intro | refine leF_cons rfl ?_ ?_ | refine leS_cons rfl ?_ ?_ | (show PLe _ _ _ _; conv => whnf) | (show SLe _ _ _ _; conv => whnf) | (show PLeL _ _ _ _; conv => whnf) | apply And.intro | rfl | exact Nat.le_refl _ | exact fun _ _ => rfl | exact rowEq0 _ _)
              all_goals first | omega | skip
            | false =>
              rw [if_neg (by decide)] at hm2
              conv => whnf
              refine ⟨?_, fun hc => (by cases hc), fun _ => ?_⟩
              · (try conv => whnf)
                (repeat' (first | exact True.intro | exact fun _ h => h | refine inR64_of ?_ ?_ | apply And.intro | refine maxLen_ge ?_)) <;> (first | omega | decide | (dsimp only; omega) | (dsimp only [List.length_cons, List.length_nil]; omega) | (intro hg; rw [hg]; rfl) | (intro hg hh; rw [hg, hh]; rfl) | (intro hg; simp [-List.getD_eq_getElem?_getD, -Int.default_eq_zero] at hg; first | omega | (refine inR64_of ?_ ?_ <;> omega) | (constructor <;> omega)) | (simp [-List.getD_eq_getElem?_getD, -Int.default_eq_zero]; done))
              conv => whnf
              refine ⟨?_, fun hc => ?_, fun hc => ?_⟩
              · (try conv => whnf)
                (repeat' (first | exact True.intro | exact fun _ h => h | refine inR64_of ?_ ?_ | apply And.intro | refine maxLen_ge ?_)) <;> (first | omega | decide | (dsimp only; omega) | (dsimp only [List.length_cons, List.length_nil]; omega) | (intro hg; rw [hg]; rfl) | (intro hg hh; rw [hg, hh]; rfl) | (intro hg; simp [-List.getD_eq_getElem?_getD, -Int.default_eq_zero] at hg; first | omega | (refine inR64_of ?_ ?_ <;> omega) | (constructor <;> omega)) | (simp [-List.getD_eq_getElem?_getD, -Int.default_eq_zero]; done))
              · exfalso
                have h : (N : Int) < m := of_decide_eq_true hc
                omega
              · conv => whnf
                refine ⟨?_, i + 1, hlt, by omega, rfl, rfl, ?_, ?_⟩
                · (try conv => whnf)
                  (repeat' (first | exact True.intro | exact fun _ h => h | refine inR64_of ?_ ?_ | apply And.intro | refine maxLen_ge ?_)) <;> (first | omega | decide | (dsimp only; omega) | (dsimp only [List.length_cons, List.length_nil]; omega) | (intro hg; rw [hg]; rfl) | (intro hg hh; rw [hg, hh]; rfl) | (intro hg; simp [-List.getD_eq_getElem?_getD, -Int.default_eq_zero] at hg; first | omega | (refine inR64_of ?_ ?_ <;> omega) | (constructor <;> omega)) | (simp [-List.getD_eq_getElem?_getD, -Int.default_eq_zero]; done))
                all_goals repeat' (first | exact True.intro | refine leF_cons rfl ?_ ?_ | refine leS_cons rfl ?_ ?_ | (show PLe _ _ _ _; conv => whnf) | (show SLe _ _ _ _; conv => whnf) | (show PLeL _ _ _ _; conv => whnf) | apply And.intro | rfl | exact Nat.le_refl _ | exact fun _ _ => rfl | exact rowEq0 _ _)
                all_goals first | omega | skip
        · conv => whnf
          refine ⟨?_, [], ?_⟩
          · (try conv => whnf)
            (repeat' (first | exact True.intro | exact fun _ h => h | refine inR64_of ?_ ?_ | apply And.intro | refine maxLen_ge ?_)) <;> (first | omega | decide | (dsimp only; omega) | (dsimp only [List.length_cons, List.length_nil]; omega) | (intro hg; rw [hg]; rfl) | (intro hg hh; rw [hg, hh]; rfl) | (intro hg; simp [-List.getD_eq_getElem?_getD, -Int.default_eq_zero] at hg; first | omega | (refine inR64_of ?_ ?_ <;> omega) | (constructor <;> omega)) | (simp [-List.getD_eq_getElem?_getD, -Int.default_eq_zero]; done))
          conv => whnf
          refine ⟨rfl, ?_, trivial, trivial⟩
          all_goals repeat' (first | exact True.intro | refine leF_cons rfl ?_ ?_ | refine leS_cons rfl ?_ ?_ | (show PLe _ _ _ _; conv => whnf) | (show SLe _ _ _ _; conv => whnf) | (show PLeL _ _ _ _; conv => whnf) | apply And.intro | rfl | exact Nat.le_refl _ | exact fun _ _ => rfl | exact rowEq0 _ _)
end Pv
end Go.Proofs.YtafnkpmoolbjjaaDoor

/- LAW 42: violations are read back from their text; ReportBack answers true. -/
set_option linter.unusedSimpArgs false
set_option linter.unusedVariables false
namespace Go.Proofs.YtafnkpmoolbjjaaDoor
namespace Pv
def c4 : C := (.seq (.reg [⟨(some 4), 64, none, .mv (.c (.bool false))⟩])
  (.seq (.seq (.reg [⟨(some 14), 224, none, .call (.c (.fn (.func 7) [] [])) []⟩,
    ⟨(some 15), 240, none, .un false .not (.t 14)⟩])
  (.cond (.t 15) (.seq (.reg [⟨(some 4), 64, none, .mv (.c (.bool false))⟩])
  .ret) .skip))
  (.seq (.seq (.reg [⟨(some 16), 256, none, .mv (.t 0)⟩,
    ⟨(some 17), 272, none, .call (.c (.fn (.func 8) [] [])) [(.t 16)]⟩,
    ⟨(some 18), 288, none, .un false .not (.t 17)⟩,
    ⟨(some 19), 304, none, .mv (.t 18)⟩,
    ⟨(some 20), 320, (some (19, false)), .mv (.t 1)⟩,
    ⟨(some 21), 336, (some (19, false)), .call (.c (.fn (.func 8) [] [])) [(.t 20)]⟩,
    ⟨(some 22), 352, (some (19, false)), .un false .not (.t 21)⟩,
    ⟨(some 23), 368, none, .pick (.t 19) (.c (.bool true)) (.t 22)⟩])
  (.cond (.t 23) (.seq (.reg [⟨(some 4), 64, none, .mv (.c (.bool true))⟩])
  .ret) .skip))
  (.seq (.reg [⟨(some 24), 384, none, .mv (.t 0)⟩,
    ⟨(some 25), 400, none, .call (.c (.fn (.func 10) [] [])) [(.t 24)]⟩,
    ⟨(some 26), 416, none, .call (.c (.fn (.func 9) [] [])) [(.t 25), (.c (.nil 1))]⟩,
    ⟨(some 27), 432, none, .mv (.t 1)⟩,
    ⟨(some 28), 448, none, .call (.c (.fn (.func 10) [] [])) [(.t 27)]⟩,
    ⟨(some 29), 464, none, .call (.c (.fn (.func 9) [] [])) [(.t 28), (.c (.nil 1))]⟩,
    ⟨(some 5), 80, none, .mv (.t 26)⟩,
    ⟨(some 6), 96, none, .mv (.t 29)⟩])
  (.seq (.reg [⟨(some 31), 496, none, .mv (.t 5)⟩,
    ⟨(some 32), 512, none, .call (.c (.fn (.func 15) [] [])) [(.t 31)]⟩,
    ⟨(some 30), 480, none, .mv (.t 32)⟩,
    ⟨(some 33), 528, none, .ex (.t 30) 0⟩,
    ⟨(some 34), 544, none, .ex (.t 30) 1⟩,
    ⟨(some 7), 112, none, .mv (.t 33)⟩,
    ⟨(some 8), 128, none, .mv (.t 34)⟩])
  (.seq (.reg [⟨(some 36), 576, none, .mv (.t 6)⟩,
    ⟨(some 37), 592, none, .call (.c (.fn (.func 15) [] [])) [(.t 36)]⟩,
    ⟨(some 35), 560, none, .mv (.t 37)⟩,
    ⟨(some 38), 608, none, .ex (.t 35) 0⟩,
    ⟨(some 39), 624, none, .ex (.t 35) 1⟩,
    ⟨(some 9), 144, none, .mv (.t 38)⟩,
    ⟨(some 10), 160, none, .mv (.t 39)⟩])
  (.seq (.reg [⟨(some 41), 656, none, .mv (.t 7)⟩,
    ⟨(some 42), 672, none, .call (.c (.fn (.func 12) [] [])) [(.t 41)]⟩,
    ⟨(some 40), 640, none, .mv (.t 42)⟩,
    ⟨(some 43), 688, none, .ex (.t 40) 0⟩,
    ⟨(some 44), 704, none, .ex (.t 40) 1⟩,
    ⟨(some 45), 720, none, .ex (.t 40) 2⟩,
    ⟨(some 11), 176, none, .mv (.t 43)⟩,
    ⟨(some 12), 192, none, .mv (.t 44)⟩,
    ⟨(some 13), 208, none, .mv (.t 45)⟩])
  (.seq (.reg [⟨(some 46), 736, none, .mv (.t 8)⟩,
    ⟨(some 47), 752, none, .bi false .eql (.t 46) (.c (.int .i64 0))⟩,
    ⟨(some 48), 768, none, .mv (.t 47)⟩,
    ⟨(some 49), 784, (some (48, true)), .mv (.t 10)⟩,
    ⟨(some 50), 800, (some (48, true)), .bi false .eql (.t 49) (.c (.int .i64 0))⟩,
    ⟨(some 51), 816, none, .pick (.t 48) (.t 50) (.c (.bool false))⟩,
    ⟨(some 52), 832, none, .mv (.t 51)⟩,
    ⟨(some 53), 848, (some (52, true)), .mv (.t 13)⟩,
    ⟨(some 54), 864, (some (52, true)), .bi false .eql (.t 53) (.c (.int .i64 0))⟩,
    ⟨(some 55), 880, none, .pick (.t 52) (.t 54) (.c (.bool false))⟩,
    ⟨(some 56), 896, none, .mv (.t 55)⟩,
    ⟨(some 57), 912, (some (56, true)), .mv (.t 12)⟩,
    ⟨(some 58), 928, (some (56, true)), .bi false .eql (.t 57) (.c (.int .i64 0))⟩,
    ⟨(some 59), 944, none, .pick (.t 56) (.t 58) (.c (.bool false))⟩,
    ⟨(some 60), 960, none, .mv (.t 59)⟩,
    ⟨(some 61), 976, (some (60, true)), .mv (.t 11)⟩,
    ⟨(some 62), 992, (some (60, true)), .mv (.t 5)⟩,
    ⟨(some 63), 1008, (some (60, true)), .call (.c (.fn (.func 14) [] [])) [(.t 61), (.t 62)]⟩,
    ⟨(some 64), 1024, none, .pick (.t 60) (.t 63) (.c (.bool false))⟩,
    ⟨(some 65), 1040, none, .mv (.t 64)⟩,
    ⟨(some 66), 1056, (some (65, true)), .mv (.t 7)⟩,
    ⟨(some 67), 1072, (some (65, true)), .mv (.t 9)⟩,
    ⟨(some 68), 1088, (some (65, true)), .bi false .eql (.t 66) (.t 67)⟩,
    ⟨(some 69), 1104, (some (65, true)), .mv (.t 5)⟩,
    ⟨(some 70), 1120, (some (65, true)), .mv (.t 6)⟩,
    ⟨(some 71), 1136, (some (65, true)), .call (.c (.fn (.func 14) [] [])) [(.t 69), (.t 70)]⟩,
    ⟨(some 72), 1152, (some (65, true)), .bib false (.t 68) (.t 71)⟩,
    ⟨(some 73), 1168, none, .pick (.t 65) (.t 72) (.c (.bool false))⟩,
    ⟨(some 4), 64, none, .mv (.t 73)⟩])
  .ret))))))))
theorem fits4 : fits Tryd.prog false Tryd.f4 2 74 [(4, none)] = some c4.er := by kernel_rfl

theorem splitC_clean {c : UInt8} : ∀ {a : List UInt8}, (∀ x ∈ a, x ≠ c) → splitC c a = [a]
  | [], _ => rfl
  | x :: xs, h => by
    have ih := splitC_clean (c := c) (a := xs) (fun y hy => h y (by simp [hy]))
    simp only [splitC, if_neg (h x (by simp)), ih]
theorem splitC_cut {c : UInt8} {r : List UInt8} : ∀ {a : List UInt8}, (∀ x ∈ a, x ≠ c) → splitC c (a ++ c :: r) = a :: splitC c r
  | [], _ => by simp [splitC]
  | x :: xs, h => by
    have ih := splitC_cut (c := c) (r := r) (a := xs) (fun y hy => h y (by simp [hy]))
    simp only [List.cons_append, splitC, if_neg (h x (by simp)), ih]

/-! ### numerals -/
theorem dig_nat {d : Nat} (h : d < 10) : (UInt8.ofNat (48 + d)).toNat = 48 + d := by
  rw [UInt8.toNat_ofNat']; omega
theorem decDigits_small {u : Nat} (h : u < 10) : Lib.decDigits u = [UInt8.ofNat (48 + u)] := by rw [Lib.decDigits, dif_pos h]
theorem decDigits_big {u : Nat} (h : ¬ u < 10) : Lib.decDigits u = Lib.decDigits (u / 10) ++ [UInt8.ofNat (48 + u % 10)] := by rw [Lib.decDigits, dif_neg h]
theorem decDigits_dig (u : Nat) : ∀ x ∈ Lib.decDigits u, 48 ≤ x.toNat ∧ x.toNat ≤ 57 := by
  induction u using Nat.strongRecOn with
  | ind u ih =>
    intro x hx
    by_cases h : u < 10
    · rw [decDigits_small h, List.mem_singleton] at hx
      rw [hx, dig_nat h]; omega
    · rw [decDigits_big h, List.mem_append, List.mem_singleton] at hx
      rcases hx with hx | hx
      · exact ih (u / 10) (by omega) x hx
      · rw [hx, dig_nat (by omega)]; omega
theorem digs_snoc : ∀ {s : List UInt8} {a : Int} {d : Nat}, d < 10 → digs a (s ++ [UInt8.ofNat (48 + d)]) = (digs a s).map fun b => 10 * b + (d : Int)
  | [], a, d, h => by
    simp only [List.nil_append, digs, dig_nat h, Option.map_some]
    rw [if_neg (by omega)]
    congr 1
    omega
  | c :: cs, a, d, h => by
    simp only [List.cons_append, digs]
    split
    · rfl
    · exact digs_snoc h
theorem digs_dec (u : Nat) : digs 0 (Lib.decDigits u) = some (u : Int) := by
  induction u using Nat.strongRecOn with
  | ind u ih =>
    by_cases h : u < 10
    · rw [decDigits_small h]
      have := digs_snoc (s := []) (a := 0) h
      rw [List.nil_append] at this
      rw [this]
      simp [digs]
    · rw [decDigits_big h, digs_snoc (by omega), ih (u / 10) (by omega)]
      simp only [Option.map_some]
      congr 1
      omega
theorem decDigits_len {k : Nat} : ∀ {u : Nat}, 1 ≤ k → u < 10 ^ k → (Lib.decDigits u).length ≤ k := by
  induction k with
  | zero => intro u h; omega
  | succ k ih =>
    intro u _ hu
    by_cases h : u < 10
    · rw [decDigits_small h]; simp
    · rw [decDigits_big h, List.length_append]
      have hk : 1 ≤ k := by
        rcases k with _ | k
        · simp at hu; omega
        · omega
      have h2 : u / 10 < 10 ^ k := by
        rw [Nat.div_lt_iff_lt_mul (by decide), ← Nat.pow_succ]; exact hu
      have := ih hk h2
      simp only [List.length_cons, List.length_nil]; omega
theorem decDigits_ne (u : Nat) : 1 ≤ (Lib.decDigits u).length := by
  by_cases h : u < 10
  · rw [decDigits_small h]; simp
  · rw [decDigits_big h]; simp
theorem decDigits_head (u : Nat) (h1 : 1 ≤ u) : ((Lib.decDigits u).getD 0 0).toNat ≠ 48 := by
  induction u using Nat.strongRecOn with
  | ind u ih =>
    by_cases h : u < 10
    · rw [decDigits_small h]
      show (UInt8.ofNat (48 + u)).toNat ≠ 48
      rw [dig_nat h]; omega
    · have h2 := ih (u / 10) (by omega) (by omega)
      have h3 := decDigits_ne (u / 10)
      rw [decDigits_big h, List.getD_eq_getElem?_getD, List.getElem?_append_left (by omega), ← List.getD_eq_getElem?_getD]
      exact h2
theorem number_itoa {n : Int} (h0 : 0 ≤ n) (h1 : n ≤ 99999999) : numberF (Lib.itoa n) = some n := by
  have he : Lib.itoa n = Lib.decDigits n.toNat := by unfold Lib.itoa; rw [if_neg (by omega)]
  have hl := decDigits_len (k := 8) (u := n.toNat) (by decide) (by
    have : n.toNat ≤ 99999999 := by omega
    exact Nat.lt_of_le_of_lt this (by decide))
  have hn := decDigits_ne n.toNat
  rw [he]
  unfold numberF
  rw [if_neg, digs_dec]
  · congr 1; omega
  · rintro (h | h | ⟨h2, h3⟩)
    · omega
    · omega
    · by_cases hu : n.toNat < 10
      · rw [decDigits_small hu] at h2; simp at h2
      · exact decDigits_head n.toNat (by omega) h3
theorem itoa_clean {n : Int} (h0 : 0 ≤ n) : ∀ x ∈ Lib.itoa n, x ≠ 32 ∧ x ≠ 10 := fun x hx => by
  have he : Lib.itoa n = Lib.decDigits n.toNat := by unfold Lib.itoa; rw [if_neg (by omega)]
  rw [he] at hx
  have := decDigits_dig _ x hx
  refine ⟨fun e => ?_, fun e => ?_⟩ <;> (subst e; revert this; decide)


/-! ### lines -/
theorem itoa_num {n : Int} (h0 : 0 ≤ n) : ∀ x ∈ Lib.itoa n, 48 ≤ x.toNat ∧ x.toNat ≤ 57 := fun x hx => by
  have he : Lib.itoa n = Lib.decDigits n.toNat := by unfold Lib.itoa; rw [if_neg (by omega)]
  rw [he] at hx
  exact decDigits_dig _ x hx
theorem itoa_word {n : Int} (h0 : 0 ≤ n) {x : UInt8} {r : List UInt8} (hx : 57 < x.toNat) : Lib.itoa n ≠ x :: r := fun e => by
  have := itoa_num h0 x (by rw [e]; simp)
  omega
theorem by_clean {b : Int} (h : -2 ≤ b) : ∀ x ∈ byT b, x ≠ 32 ∧ x ≠ 10 := by
  unfold byT
  split
  · decide
  split
  · decide
  · exact itoa_clean (by omega)
theorem by_back {b : Int} (h : -2 ≤ b) (h2 : b ≤ 99999999) : byN (byT b) = b ∧ byI (byT b) = true := by
  unfold byT
  split
  · subst_vars; decide
  split
  · subst_vars; decide
  · have e1 : Lib.itoa b ≠ wBounds := itoa_word (by omega) (by decide)
    have e2 : Lib.itoa b ≠ wPlan := itoa_word (by omega) (by decide)
    have e3 := number_itoa (n := b) (by omega) h2
    unfold byN byI
    rw [if_neg e1, if_neg e2, if_neg e1, if_neg e2, e3]
    exact ⟨rfl, rfl⟩
def lineB (v : Vi) : List UInt8 := wStep ++ 32 :: (Lib.itoa v.t ++ 32 :: (wSite ++ 32 :: (Lib.itoa v.s ++ 32 :: (wCond ++ 32 :: (Lib.itoa v.c ++ 32 :: (wBy ++ 32 :: byT v.b))))))
theorem lineVT_B (v : Vi) (r : List UInt8) : lineVT v ++ r = lineB v ++ 10 :: r := by
  simp [lineVT, lineB, wStep, wSite, wCond, wBy, tSite, tCond, tBy]
theorem lineB_split {v : Vi} (h : ¬ badV v) : splitC 32 (lineB v) = [wStep, Lib.itoa v.t, wSite, Lib.itoa v.s, wCond, Lib.itoa v.c, wBy, byT v.b] := by
  unfold badV at h
  unfold lineB
  rw [splitC_cut (by decide), splitC_cut (fun x hx => (itoa_clean (by omega) x hx).1), splitC_cut (by decide), splitC_cut (fun x hx => (itoa_clean (by omega) x hx).1), splitC_cut (by decide),
    splitC_cut (fun x hx => (itoa_clean (by omega) x hx).1), splitC_cut (by decide), splitC_clean (fun x hx => (by_clean (by omega) x hx).1)]
theorem lineB_clean {v : Vi} (h : ¬ badV v) : ∀ x ∈ lineB v, x ≠ 10 := fun x hx => by
  unfold badV at h
  unfold lineB at hx
  simp only [List.mem_append, List.mem_cons] at hx
  rcases hx with hx | rfl | hx | rfl | hx | rfl | hx | rfl | hx | rfl | hx | rfl | hx | rfl | hx
  · revert x; decide
  · decide
  · exact (itoa_clean (by omega) x hx).2
  · decide
  · revert x; decide
  · decide
  · exact (itoa_clean (by omega) x hx).2
  · decide
  · revert x; decide
  · decide
  · exact (itoa_clean (by omega) x hx).2
  · decide
  · revert x; decide
  · decide
  · exact (by_clean (by omega) x hx).2
theorem line_back {v : Vi} (h : ¬ badV v) : lineW (splitC 32 (lineB v)) = (v, true) := by
  rw [lineB_split h]
  unfold badV at h
  have hb := by_back (b := v.b) (by omega) (by omega)
  have e1 := number_itoa (n := v.t) (by omega) (by omega)
  have e2 := number_itoa (n := v.s) (by omega) (by omega)
  have e3 := number_itoa (n := v.c) (by omega) (by omega)
  unfold lineW
  rw [if_neg (by unfold badW; rintro (h | h | h | h | h) <;> exact h rfl)]
  unfold nW isW
  simp only [List.getD_cons_succ, List.getD_cons_zero, e1, e2, e3, hb.1, hb.2, Option.getD_some, Option.isSome_some, cond_true]
theorem text_lines : ∀ {l : List Vi} (n : Nat) (t : List Vi), (∀ v ∈ l, ¬ badV v) → pLinesV n (splitC 10 (textV l)) t = (t ++ l, 0, 0)
  | [], n, t, _ => by
    show (if ([] : List UInt8) ≠ [] then _ else (t, (0 : Int), (0 : Int))) = _
    rw [if_neg (by simp), List.append_nil]
  | v :: l, n, t, h => by
    have hv := h v (by simp)
    have ih := text_lines (l := l) (n + 1) (t ++ [v]) (fun w hw => h w (by simp [hw]))
    have e : textV (v :: l) = lineB v ++ 10 :: textV l := by
      show lineVT v ++ textV l = _
      exact lineVT_B v _
    rw [e, splitC_cut (lineB_clean hv), pLinesV_cons (splitC_ne 10 _), line_back hv, if_neg (show ¬ (true = false) by decide), ih]
    simp
theorem text_back {l : List Vi} (h : ∀ v ∈ l, ¬ badV v) : parseV (textV l) = (l, 0, 0) := by
  unfold parseV
  rw [text_lines 1 [] h, List.nil_append]
theorem text_inj {l m : List Vi} (h : ∀ v ∈ l, ¬ badV v) (h2 : ∀ v ∈ m, ¬ badV v) (e : textV l = textV m) : l = m := by
  have h3 := text_back h
  rw [e, text_back h2] at h3
  injection h3 with h3; exact h3.symm
theorem good_mem {l : List Vi} (h : ∀ i, i < l.length → GoodV (l.getD i default)) : ∀ v ∈ l, ¬ badV v := fun v hv => by
  obtain ⟨i, hi, he⟩ := List.mem_iff_getElem.1 hv
  have := h i hi
  simp only [List.getD, List.getElem?_eq_getElem hi, Option.getD_some, he] at this
  unfold GoodV at this
  unfold badV
  omega
theorem good_V64 {l : List Vi} (h : ∀ i, i < l.length → GoodV (l.getD i default)) : ∀ i, i < l.length → V64 (l.getD i default) := fun i hi => by
  have := h i hi
  unfold GoodV at this
  unfold V64
  omega
theorem good_fmt {l : List Vi} (h : ∀ v ∈ l, ¬ badV v) : formatV l = (textV l, 0) := by
  refine none_bad fun i hi => h _ (getD_mem hi)

set_option maxRecDepth 100000 in
set_option maxHeartbeats 16000000 in
theorem call4 (t0 o0 : List Int) : PureCall Tryd.prog 4 [.sl 1 1 t0.length (fl eInt t0), .sl 1 1 o0.length (fl eInt o0)] [] ⟨.bool true, [], []⟩ := by
  refine pure_call mix Tryd.func4 fits4 rfl ?_
  conv => whnf
  refine ⟨_, fun _ => call7, ?_⟩
  conv => whnf
  refine ⟨?_, fun hc => (by cases hc), fun _ => ?_⟩
  · (try conv => whnf)
    (repeat' (first | exact True.intro | exact fun _ h => h | refine inR64_of ?_ ?_ | apply And.intro | refine maxLen_ge ?_)) <;> (first | omega | decide | (dsimp only; omega) | (dsimp only [List.length_cons, List.length_nil]; omega) | (intro hg; rw [hg]; rfl) | (intro hg hh; rw [hg, hh]; rfl) | (intro hg; simp [-List.getD_eq_getElem?_getD, -Int.default_eq_zero] at hg; first | omega | (refine inR64_of ?_ ?_ <;> omega) | (constructor <;> omega)) | (simp [-List.getD_eq_getElem?_getD, -Int.default_eq_zero]; done))
  conv => whnf
  refine ⟨_, fun _ => call8 1 t0, ?_⟩
  conv => whnf
  refine ⟨_, fun _ => call8 1 o0, ?_⟩
  conv => whnf
  refine ⟨?_, fun hc => ?_, fun hc => ?_⟩
  · (try conv => whnf)
    (repeat' (first | exact True.intro | exact fun _ h => h | refine inR64_of ?_ ?_ | apply And.intro | refine maxLen_ge ?_)) <;> (first | omega | decide | (dsimp only; omega) | (dsimp only [List.length_cons, List.length_nil]; omega) | (intro hg; rw [hg]; rfl) | (intro hg hh; rw [hg, hh]; rfl) | (intro hg; simp [-List.getD_eq_getElem?_getD, -Int.default_eq_zero] at hg; first | omega | (refine inR64_of ?_ ?_ <;> omega) | (constructor <;> omega)) | (simp [-List.getD_eq_getElem?_getD, -Int.default_eq_zero]; done))
  · conv => whnf
    refine ⟨?_, [], ?_⟩
    · (try conv => whnf)
      (repeat' (first | exact True.intro | exact fun _ h => h | refine inR64_of ?_ ?_ | apply And.intro | refine maxLen_ge ?_)) <;> (first | omega | decide | (dsimp only; omega) | (dsimp only [List.length_cons, List.length_nil]; omega) | (intro hg; rw [hg]; rfl) | (intro hg hh; rw [hg, hh]; rfl) | (intro hg; simp [-List.getD_eq_getElem?_getD, -Int.default_eq_zero] at hg; first | omega | (refine inR64_of ?_ ?_ <;> omega) | (constructor <;> omega)) | (simp [-List.getD_eq_getElem?_getD, -Int.default_eq_zero]; done))
    conv => whnf
    refine ⟨rfl, ?_, trivial, trivial⟩
    all_goals repeat' (first | exact True.intro | refine leF_cons rfl ?_ ?_ | refine leS_cons rfl ?_ ?_ | (show PLe _ _ _ _; conv => whnf) | (show SLe _ _ _ _; conv => whnf) | (show PLeL _ _ _ _; conv => whnf) | apply And.intro | rfl | exact Nat.le_refl _ | exact fun _ _ => rfl | exact rowEq0 _ _)
  clear hc
  conv => whnf
  refine ⟨_, fun _ => call_new 1 t0, ?_⟩
  conv => whnf
  refine ⟨_, fun _ => PureCall.arg_le (call9 0 0 [] ⟨t0, 0⟩ (by dsimp only; omega) (by decide) (fun i hi => absurd hi (Nat.not_lt_zero _))) rfl (by
    all_goals repeat' (first | exact True.intro | refine leF_cons rfl ?_ ?_ | refine leS_cons rfl ?_ ?_ | (show PLe _ _ _ _; conv => whnf) | (show SLe _ _ _ _; conv => whnf) | (show PLeL _ _ _ _; conv => whnf) | apply And.intro | rfl | exact Nat.le_refl _ | exact fun _ _ => rfl | exact rowEq0 _ _)
    all_goals skip), ?_⟩
  have hvf := vioF_ok (C := []) (fun i hi => absurd hi (Nat.not_lt_zero _)) ⟨t0, 0⟩
  generalize vioF [] ⟨t0, 0⟩ = W at hvf ⊢
  obtain ⟨a, d⟩ := W
  obtain ⟨hal, hag, _⟩ := hvf
  dsimp only at hal hag
  conv => whnf
  refine ⟨_, fun _ => call_new 1 o0, ?_⟩
  conv => whnf
  refine ⟨_, fun _ => PureCall.arg_le (call9 0 0 [] ⟨o0, 0⟩ (by dsimp only; omega) (by decide) (fun i hi => absurd hi (Nat.not_lt_zero _))) rfl (by
    all_goals repeat' (first | exact True.intro | refine leF_cons rfl ?_ ?_ | refine leS_cons rfl ?_ ?_ | (show PLe _ _ _ _; conv => whnf) | (show SLe _ _ _ _; conv => whnf) | (show PLeL _ _ _ _; conv => whnf) | apply And.intro | rfl | exact Nat.le_refl _ | exact fun _ _ => rfl | exact rowEq0 _ _)
    all_goals skip), ?_⟩
  have hvf := vioF_ok (C := []) (fun i hi => absurd hi (Nat.not_lt_zero _)) ⟨o0, 0⟩
  generalize vioF [] ⟨o0, 0⟩ = W at hvf ⊢
  obtain ⟨b, e⟩ := W
  obtain ⟨hbl, hbg, _⟩ := hvf
  dsimp only at hbl hbg
  have ha := good_mem hag
  have hb := good_mem hbg
  have hfa := good_fmt ha
  have hfb := good_fmt hb
  have hta := textV_len (good_V64 hag) a.length (Nat.le_refl _)
  rw [List.take_length] at hta
  have hinj := text_inj ha hb
  conv => whnf
  refine ⟨_, fun _ => call15 _ a (by omega) (good_V64 hag), ?_⟩
  rw [hfa]
  conv => whnf
  refine ⟨_, fun _ => call15 _ b (by omega) (good_V64 hbg), ?_⟩
  rw [hfb]
  conv => whnf
  refine ⟨_, fun _ => call12 (textV a) (by omega), ?_⟩
  rw [text_back ha]
  conv => whnf
  refine ⟨_, fun _ => call14 _ _ a a (by omega), ?_⟩
  rw [show decide (a = a) = true from decide_eq_true rfl]
  conv => whnf
  refine ⟨_, fun _ => call14 _ _ a b (by omega), ?_⟩
  conv => whnf
  have hq : ((textV a == textV b) == decide (a = b)) = true := by
    by_cases h : a = b
    · subst h; simp
    · rw [decide_eq_false h, beq_eq_false_iff_ne.2 (fun h2 => h (hinj h2))]; rfl
  refine ⟨?_, [], ?_⟩
  · (try conv => whnf)
    (repeat' (first | exact True.intro | exact fun _ h => h | refine inR64_of ?_ ?_ | apply And.intro | refine maxLen_ge ?_)) <;> (first | omega | decide | (dsimp only; omega) | (dsimp only [List.length_cons, List.length_nil]; omega) | (intro hg; rw [hg]; rfl) | (intro hg hh; rw [hg, hh]; rfl) | (intro hg; simp [-List.getD_eq_getElem?_getD, -Int.default_eq_zero] at hg; first | omega | (refine inR64_of ?_ ?_ <;> omega) | (constructor <;> omega)) | (simp [-List.getD_eq_getElem?_getD, -Int.default_eq_zero]; done))
  conv => whnf
  refine ⟨rfl, ?_, trivial, trivial⟩
  all_goals repeat' (first | exact True.intro | refine leF_cons rfl ?_ ?_ | refine leS_cons rfl ?_ ?_ | (show PLe _ _ _ _; conv => whnf) | (show SLe _ _ _ _; conv => whnf) | (show PLeL _ _ _ _; conv => whnf) | apply And.intro | rfl | exact Nat.le_refl _ | exact fun _ _ => rfl | exact rowEq0 _ _)
  all_goals first | exact hq | skip
end Pv
end Go.Proofs.YtafnkpmoolbjjaaDoor

/- LAW 42: what texts mean (ReportTexts). -/
set_option linter.unusedSimpArgs false
set_option linter.unusedVariables false
namespace Go.Proofs.YtafnkpmoolbjjaaDoor
namespace Pv
def c3L1 : C := (.seq (.reg [⟨(some 85), 1360, none, .bi false .lss (.t 84) (.t 83)⟩])
  (.seq (.cond (.t 85) .skip (.exit 0))
  (.seq (.block 1 (.seq (.reg [⟨(some 86), 1376, none, .ia 1 (.t 82) (.t 84)⟩,
    ⟨(some 87), 1392, none, .ld 1 false (.t 86)⟩,
    ⟨(some 16), 256, none, .mv (.t 87)⟩])
  (.seq (.reg [⟨(some 89), 1424, none, .mv (.t 16)⟩,
    ⟨(some 90), 1440, none, .call (.c (.fn (.func 12) [] [])) [(.t 89)]⟩,
    ⟨(some 88), 1408, none, .mv (.t 90)⟩,
    ⟨(some 91), 1456, none, .ex (.t 88) 0⟩,
    ⟨(some 92), 1472, none, .ex (.t 88) 1⟩,
    ⟨(some 93), 1488, none, .ex (.t 88) 2⟩,
    ⟨(some 17), 272, none, .mv (.t 91)⟩,
    ⟨(some 18), 288, none, .mv (.t 92)⟩,
    ⟨(some 19), 304, none, .mv (.t 93)⟩])
  (.seq (.reg [⟨(some 95), 1520, none, .mv (.t 16)⟩,
    ⟨(some 96), 1536, none, .call (.c (.fn (.func 13) [] [])) [(.t 95)]⟩,
    ⟨(some 94), 1504, none, .mv (.t 96)⟩,
    ⟨(some 97), 1552, none, .ex (.t 94) 0⟩,
    ⟨(some 98), 1568, none, .ex (.t 94) 1⟩,
    ⟨(some 99), 1584, none, .ex (.t 94) 2⟩,
    ⟨(some 20), 320, none, .mv (.t 97)⟩,
    ⟨(some 21), 336, none, .mv (.t 98)⟩,
    ⟨(some 22), 352, none, .mv (.t 99)⟩])
  (.seq (.reg [⟨(some 100), 1600, none, .mv (.t 19)⟩,
    ⟨(some 101), 1616, none, .mv (.t 22)⟩,
    ⟨(some 102), 1632, none, .bi false .neq (.t 100) (.t 101)⟩,
    ⟨(some 103), 1648, none, .mv (.t 102)⟩,
    ⟨(some 104), 1664, (some (103, false)), .mv (.t 18)⟩,
    ⟨(some 105), 1680, (some (103, false)), .mv (.t 21)⟩,
    ⟨(some 106), 1696, (some (103, false)), .bi false .neq (.t 104) (.t 105)⟩,
    ⟨(some 107), 1712, none, .pick (.t 103) (.c (.bool true)) (.t 106)⟩,
    ⟨(some 108), 1728, none, .mv (.t 107)⟩,
    ⟨(some 109), 1744, (some (108, false)), .mv (.t 17)⟩,
    ⟨(some 110), 1760, (some (108, false)), .mv (.t 20)⟩,
    ⟨(some 111), 1776, (some (108, false)), .call (.c (.fn (.func 14) [] [])) [(.t 109), (.t 110)]⟩,
    ⟨(some 112), 1792, (some (108, false)), .un false .not (.t 111)⟩,
    ⟨(some 113), 1808, none, .pick (.t 108) (.c (.bool true)) (.t 112)⟩])
  (.cond (.t 113) (.seq (.reg [⟨(some 10), 160, none, .mv (.c (.bool false))⟩])
  .ret) .skip))))))
  (.reg [⟨(some 114), 1824, none, .bi false .add (.t 84) (.c (.int .i64 1))⟩,
    ⟨(some 84), 1344, none, .mv (.t 114)⟩]))))
def c3L2 : C := (.seq (.reg [⟨(some 120), 1920, none, .bi false .lss (.t 119) (.t 118)⟩])
  (.seq (.cond (.t 120) .skip (.exit 2))
  (.seq (.block 3 (.seq (.reg [⟨(some 121), 1936, none, .ia 1 (.t 117) (.t 119)⟩,
    ⟨(some 122), 1952, none, .ld 1 false (.t 121)⟩,
    ⟨(some 24), 384, none, .mv (.t 122)⟩])
  (.seq (.reg [⟨(some 124), 1984, none, .mv (.t 24)⟩,
    ⟨(some 125), 2000, none, .call (.c (.fn (.func 15) [] [])) [(.t 124)]⟩,
    ⟨(some 123), 1968, none, .mv (.t 125)⟩,
    ⟨(some 126), 2016, none, .ex (.t 123) 0⟩,
    ⟨(some 127), 2032, none, .ex (.t 123) 1⟩,
    ⟨(some 25), 400, none, .mv (.t 126)⟩,
    ⟨(some 26), 416, none, .mv (.t 127)⟩])
  (.seq (.reg [⟨(some 129), 2064, none, .mv (.t 24)⟩,
    ⟨(some 130), 2080, none, .call (.c (.fn (.func 11) [] [])) [(.t 129)]⟩,
    ⟨(some 128), 2048, none, .mv (.t 130)⟩,
    ⟨(some 131), 2096, none, .ex (.t 128) 0⟩,
    ⟨(some 132), 2112, none, .ex (.t 128) 1⟩,
    ⟨(some 27), 432, none, .mv (.t 131)⟩,
    ⟨(some 28), 448, none, .mv (.t 132)⟩])
  (.seq (.reg [⟨(some 133), 2128, none, .mv (.t 26)⟩,
    ⟨(some 134), 2144, none, .mv (.t 28)⟩,
    ⟨(some 135), 2160, none, .bi false .neq (.t 133) (.t 134)⟩,
    ⟨(some 136), 2176, none, .mv (.t 135)⟩,
    ⟨(some 137), 2192, (some (136, false)), .mv (.t 25)⟩,
    ⟨(some 138), 2208, (some (136, false)), .mv (.t 27)⟩,
    ⟨(some 139), 2224, (some (136, false)), .bi false .neq (.t 137) (.t 138)⟩,
    ⟨(some 140), 2240, none, .pick (.t 136) (.c (.bool true)) (.t 139)⟩])
  (.cond (.t 140) (.seq (.reg [⟨(some 10), 160, none, .mv (.c (.bool false))⟩])
  .ret) .skip))))))
  (.reg [⟨(some 141), 2256, none, .bi false .add (.t 119) (.c (.int .i64 1))⟩,
    ⟨(some 119), 1904, none, .mv (.t 141)⟩]))))
def c3 : C := (.seq (.reg [⟨(some 10), 160, none, .mv (.c (.bool false))⟩])
  (.seq (.seq (.reg [⟨(some 29), 464, none, .call (.c (.fn (.func 7) [] [])) []⟩,
    ⟨(some 30), 480, none, .un false .not (.t 29)⟩])
  (.cond (.t 30) (.seq (.reg [⟨(some 10), 160, none, .mv (.c (.bool false))⟩])
  .ret) .skip))
  (.seq (.seq (.reg [⟨(some 31), 496, none, .mv (.t 0)⟩,
    ⟨(some 32), 512, none, .call (.c (.fn (.func 8) [] [])) [(.t 31)]⟩,
    ⟨(some 33), 528, none, .un false .not (.t 32)⟩,
    ⟨(some 34), 544, none, .mv (.t 33)⟩,
    ⟨(some 35), 560, (some (34, false)), .mv (.t 1)⟩,
    ⟨(some 36), 576, (some (34, false)), .len (.t 35)⟩,
    ⟨(some 37), 592, (some (34, false)), .bi false .gtr (.t 36) (.c (.int .i64 100))⟩,
    ⟨(some 38), 608, none, .pick (.t 34) (.c (.bool true)) (.t 37)⟩,
    ⟨(some 39), 624, none, .mv (.t 38)⟩,
    ⟨(some 40), 640, (some (39, false)), .mv (.t 2)⟩,
    ⟨(some 41), 656, (some (39, false)), .lens (.t 40)⟩,
    ⟨(some 42), 672, (some (39, false)), .bi false .gtr (.t 41) (.c (.int .i64 1000))⟩,
    ⟨(some 43), 688, none, .pick (.t 39) (.c (.bool true)) (.t 42)⟩])
  (.cond (.t 43) (.seq (.reg [⟨(some 10), 160, none, .mv (.c (.bool true))⟩])
  .ret) .skip))
  (.seq (.reg [⟨(some 44), 704, none, .mv (.t 0)⟩,
    ⟨(some 45), 720, none, .call (.c (.fn (.func 10) [] [])) [(.t 44)]⟩,
    ⟨(some 46), 736, none, .call (.c (.fn (.func 9) [] [])) [(.t 45), (.c (.nil 1))]⟩,
    ⟨(some 11), 176, none, .mv (.t 46)⟩])
  (.seq (.reg [⟨(some 48), 768, none, .mv (.t 11)⟩,
    ⟨(some 49), 784, none, .call (.c (.fn (.func 11) [] [])) [(.t 48)]⟩,
    ⟨(some 47), 752, none, .mv (.t 49)⟩,
    ⟨(some 50), 800, none, .ex (.t 47) 0⟩,
    ⟨(some 51), 816, none, .ex (.t 47) 1⟩,
    ⟨(some 12), 192, none, .mv (.t 50)⟩,
    ⟨(some 13), 208, none, .mv (.t 51)⟩])
  (.seq (.reg [⟨(some 52), 832, none, .mv (.t 12)⟩,
    ⟨(some 53), 848, none, .mv (.t 2)⟩,
    ⟨(some 54), 864, none, .bi false .add (.t 52) (.t 53)⟩,
    ⟨(some 55), 880, none, .cvb 5 (.t 54)⟩,
    ⟨(some 14), 224, none, .mv (.t 55)⟩])
  (.cut (.seq (.seq (.reg [⟨(some 56), 896, none, .mv (.t 14)⟩,
    ⟨(some 57), 912, none, .len (.t 56)⟩,
    ⟨(some 58), 928, none, .bi false .gtr (.t 57) (.c (.int .i64 0))⟩])
  (.cond (.t 58) (.reg [⟨(some 59), 944, none, .mv (.t 14)⟩,
    ⟨(some 60), 960, none, .mv (.t 3)⟩,
    ⟨(some 61), 976, none, .cv false .i64 (.t 60)⟩,
    ⟨(some 62), 992, none, .mv (.t 14)⟩,
    ⟨(some 63), 1008, none, .len (.t 62)⟩,
    ⟨(some 64), 1024, none, .bi false .rem (.t 61) (.t 63)⟩,
    ⟨(some 65), 1040, none, .mv (.t 4)⟩,
    ⟨(some 66), 1056, none, .ia 1 (.t 59) (.t 64)⟩,
    ⟨none, 0, none, .st 1 (.t 66) (.t 65)⟩]) .skip))
  (.seq (.seq (.drw [⟨(some 67), 1072, none, .mv (.t 2)⟩,
    ⟨(some 68), 1088, none, .mv (.t 12)⟩,
    ⟨(some 69), 1104, none, .mv (.t 14)⟩,
    ⟨(some 70), 1120, none, .cvs (.t 69)⟩,
    ⟨(some 71), 1136, none, .mv (.t 12)⟩,
    ⟨(some 72), 1152, none, .mv (.t 2)⟩,
    ⟨(some 73), 1168, none, .bi false .add (.t 71) (.t 72)⟩,
    ⟨(some 74), 1184, none, .mv (.t 12)⟩,
    ⟨(some 75), 1200, none, .mv (.t 3)⟩,
    ⟨(some 76), 1216, none, .cv false .i64 (.t 75)⟩,
    ⟨(some 77), 1232, none, .mv (.t 12)⟩,
    ⟨(some 78), 1248, none, .lens (.t 77)⟩,
    ⟨(some 79), 1264, none, .bi false .add (.t 78) (.c (.int .i64 1))⟩,
    ⟨(some 80), 1280, none, .bi false .rem (.t 76) (.t 79)⟩,
    ⟨(some 81), 1296, none, .slcs (.t 74) none (some (.t 80))⟩,
    ⟨(some 82), 1312, none, .bs 9 1 [(.t 67), (.t 68), (.t 70), (.t 73), (.t 81)]⟩,
    ⟨(some 83), 1328, none, .len (.t 82)⟩,
    ⟨(some 84), 1344, none, .mv (.c (.int .i64 0))⟩]
    [(0, 1, 67), (0, 2, 67), (0, 3, 67), (0, 4, 67), (0, 5, 67), (0, 6, 67), (0, 7, 67), (0, 8, 67), (0, 9, 67), (0, 10, 67), (0, 11, 67), (0, 12, 67), (0, 13, 67), (0, 14, 67), (0, 17, 67), (1, 2, 68), (1, 3, 68), (1, 4, 68), (1, 5, 68), (1, 6, 68), (1, 7, 68), (1, 8, 68), (1, 9, 68), (1, 10, 68), (1, 11, 68), (1, 12, 68), (1, 13, 68), (1, 14, 68), (1, 17, 68), (2, 4, 69), (2, 5, 69), (2, 6, 69), (2, 7, 69), (2, 8, 69), (2, 9, 69), (2, 10, 69), (2, 11, 69), (2, 12, 69), (2, 13, 69), (2, 14, 69), (2, 17, 69), (3, 4, 70), (3, 5, 70), (3, 6, 70), (3, 7, 70), (3, 8, 70), (3, 9, 70), (3, 10, 70), (3, 11, 70), (3, 12, 70), (3, 13, 70), (3, 14, 70), (3, 17, 70), (4, 5, 71), (4, 7, 71), (4, 8, 71), (4, 9, 71), (4, 10, 71), (4, 11, 71), (4, 12, 71), (4, 13, 71), (4, 14, 71), (4, 17, 71), (5, 7, 72), (5, 8, 72), (5, 9, 72), (5, 10, 72), (5, 11, 72), (5, 12, 72), (5, 13, 72), (5, 14, 72), (5, 17, 72), (6, 7, 73), (6, 8, 73), (6, 9, 73), (6, 10, 73), (6, 11, 73), (6, 12, 73), (6, 13, 73), (6, 14, 73), (6, 17, 73), (7, 8, 74), (7, 9, 74), (7, 10, 74), (7, 11, 74), (7, 12, 74), (7, 13, 74), (7, 17, 74), (8, 10, 75), (8, 11, 75), (8, 12, 75), (8, 17, 75), (9, 10, 76), (9, 11, 76), (9, 12, 76), (9, 17, 76), (10, 17, 77), (11, 17, 78), (12, 17, 79), (13, 17, 80), (14, 17, 81), (15, 17, 82), (16, 17, 83)])
  (.block 0 (.loop c3L1)))
  (.seq (.seq (.reg [⟨(some 115), 1840, none, .mv (.t 1)⟩,
    ⟨(some 116), 1856, none, .mv (.t 11)⟩,
    ⟨(some 117), 1872, none, .bs 23 1 [(.t 115), (.t 116)]⟩,
    ⟨(some 118), 1888, none, .len (.t 117)⟩,
    ⟨(some 119), 1904, none, .mv (.c (.int .i64 0))⟩])
  (.block 2 (.loop c3L2)))
  (.seq (.reg [⟨(some 10), 160, none, .mv (.c (.bool true))⟩])
  .ret)))))))))))
theorem fits3 : fits Tryd.prog false Tryd.f3 5 142 [(10, none)] = some c3.er := by kernel_rfl

theorem strOf_len (n : Nat) (f : Nat → List PV) : (strOf n f).length = n := by simp [strOf]
/-- A text's bytes, one of them changed, are bytes. -/
theorem areBytes_set {s : List UInt8} {i : Nat} {n : Int} (h : 0 ≤ n ∧ n ≤ 255) :
    areBytes s.length (fun k => if k = i then setAt [PV.int .u8 ((s.getD i 0).toNat : Int)] 0 [.int .u8 n] else [.int .u8 ((s.getD k 0).toNat : Int)]) := fun k _ => by
  by_cases e : k = i
  · refine ⟨UInt8.ofNat n.toNat, ?_⟩
    dsimp only
    rw [if_pos e]
    have : (UInt8.ofNat n.toNat).toNat = n.toNat := by
      rw [UInt8.toNat_ofNat']; omega
    rw [this]
    have : ((n.toNat : Nat) : Int) = n := by omega
    rw [this]; rfl
  · exact ⟨s.getD k 0, by dsimp only; rw [if_neg e]⟩
theorem rowEq5 {α : Type} [Inhabited α] {e : α → List PV} {a b c d g : α} {f : Nat → List PV} (h0 : f 0 = e a) (h1 : f 1 = e b) (h2 : f 2 = e c) (h3 : f 3 = e d) (h4 : f 4 = e g) : RowEq 5 f (fl e [a, b, c, d, g]) := fun i hi => by
  match i, hi with
  | 0, _ => exact h0
  | 1, _ => exact h1
  | 2, _ => exact h2
  | 3, _ => exact h3
  | 4, _ => exact h4
theorem pLinesV_len : ∀ (L : List (List UInt8)) (n : Nat) (t : List Vi), (pLinesV n L t).1.length ≤ t.length + L.length
  | [], n, t => by simp [pLinesV]
  | x :: r, n, t => by
    by_cases hr : r = []
    · subst hr
      show (if x ≠ [] then (([] : List Vi), (n : Int), (7 : Int)) else (t, 0, 0)).1.length ≤ _
      split <;> simp
    · rw [pLinesV_cons hr]
      split
      · simp
      · have := pLinesV_len r (n + 1) (t ++ [(lineW (splitC 32 x)).1])
        simp only [List.length_append, List.length_cons, List.length_nil] at this ⊢
        omega
theorem parseV_len (s : List UInt8) : (parseV s).1.length ≤ s.length + 1 := by
  have h := (splitC_len 10 s).1
  have := pLinesV_len (splitC 10 s) 1 []
  unfold parseV
  simp only [List.length_nil] at this
  omega

set_option maxRecDepth 100000 in
set_option maxHeartbeats 16000000 in
theorem call3 (l0 : List Int) (raw : List Vi) (s : List UInt8) (at_ by_ : Int) (h1 : 0 ≤ at_ ∧ at_ ≤ 255) (h2 : 0 ≤ by_ ∧ by_ ≤ 255) (hV : ∀ i, i < raw.length → V64 (raw.getD i default)) :
    PureCall Tryd.prog 3 [.sl 1 1 l0.length (fl eInt l0), .sl 1 4 raw.length (fl eVi raw), .str s, .int .u8 at_, .int .u8 by_] [] ⟨.bool true, [], []⟩ := by
  refine pure_call mix Tryd.func3 fits3 rfl ?_
  conv => whnf
  refine ⟨_, fun _ => call7, ?_⟩
  conv => whnf
  refine ⟨?_, fun hc => (by cases hc), fun _ => ?_⟩
  · (try conv => whnf)
    (repeat' (first | exact True.intro | exact fun _ h => h | refine inR64_of ?_ ?_ | apply And.intro | refine maxLen_ge ?_)) <;> (first | omega | decide | (dsimp only; omega) | (dsimp only [List.length_cons, List.length_nil]; omega) | (intro hg; rw [hg]; rfl) | (intro hg hh; rw [hg, hh]; rfl) | (intro hg; simp [-List.getD_eq_getElem?_getD, -Int.default_eq_zero] at hg; first | omega | (refine inR64_of ?_ ?_ <;> omega) | (constructor <;> omega)) | (simp [-List.getD_eq_getElem?_getD, -Int.default_eq_zero]; done))
  conv => whnf
  refine ⟨_, fun _ => call8 1 l0, ?_⟩
  conv => whnf
  refine ⟨?_, fun hc => ?_, fun hc => ?_⟩
  · (try conv => whnf)
    (repeat' (first | exact True.intro | exact fun _ h => h | refine inR64_of ?_ ?_ | apply And.intro | refine maxLen_ge ?_)) <;> (first | omega | decide | (dsimp only; omega) | (dsimp only [List.length_cons, List.length_nil]; omega) | (intro hg; rw [hg]; rfl) | (intro hg hh; rw [hg, hh]; rfl) | (intro hg; simp [-List.getD_eq_getElem?_getD, -Int.default_eq_zero] at hg; first | omega | (refine inR64_of ?_ ?_ <;> omega) | (constructor <;> omega)) | (simp [-List.getD_eq_getElem?_getD, -Int.default_eq_zero]; done))
  · conv => whnf
    refine ⟨?_, [], ?_⟩
    · (try conv => whnf)
      (repeat' (first | exact True.intro | exact fun _ h => h | refine inR64_of ?_ ?_ | apply And.intro | refine maxLen_ge ?_)) <;> (first | omega | decide | (dsimp only; omega) | (dsimp only [List.length_cons, List.length_nil]; omega) | (intro hg; rw [hg]; rfl) | (intro hg hh; rw [hg, hh]; rfl) | (intro hg; simp [-List.getD_eq_getElem?_getD, -Int.default_eq_zero] at hg; first | omega | (refine inR64_of ?_ ?_ <;> omega) | (constructor <;> omega)) | (simp [-List.getD_eq_getElem?_getD, -Int.default_eq_zero]; done))
    conv => whnf
    refine ⟨rfl, ?_, trivial, trivial⟩
    all_goals repeat' (first | exact True.intro | refine leF_cons rfl ?_ ?_ | refine leS_cons rfl ?_ ?_ | (show PLe _ _ _ _; conv => whnf) | (show SLe _ _ _ _; conv => whnf) | (show PLeL _ _ _ _; conv => whnf) | apply And.intro | rfl | exact Nat.le_refl _ | exact fun _ _ => rfl | exact rowEq0 _ _)
  simp only [bif_t, bif_f, decide_eq_true_eq, decide_eq_false_iff_not, Bool.not_eq_true', Bool.not_eq_false', Bool.and_eq_true, Bool.or_eq_true, Bool.and_eq_false_iff, Bool.or_eq_false_iff, beq_iff_eq, bne_iff_ne, beq_eq_false_iff_ne, bne_eq_false_iff_eq, reduceCtorEq, false_and, and_false, true_and, and_true, or_false, false_or, or_true, true_or, not_true_eq_false, not_false_eq_true, Int.toNat_zero] at hc
  have hrl : raw.length ≤ 100 := by omega
  have hsl : s.length ≤ 1000 := by omega
  clear hc
  conv => whnf
  refine ⟨_, fun _ => call_new 1 l0, ?_⟩
  conv => whnf
  refine ⟨_, fun _ => PureCall.arg_le (call9 0 0 [] ⟨l0, 0⟩ (by dsimp only; omega) (by decide) (fun i hi => absurd hi (Nat.not_lt_zero _))) rfl (by
    all_goals repeat' (first | exact True.intro | refine leF_cons rfl ?_ ?_ | refine leS_cons rfl ?_ ?_ | (show PLe _ _ _ _; conv => whnf) | (show SLe _ _ _ _; conv => whnf) | (show PLeL _ _ _ _; conv => whnf) | apply And.intro | rfl | exact Nat.le_refl _ | exact fun _ _ => rfl | exact rowEq0 _ _)
    all_goals skip), ?_⟩
  have hvf := vioF_ok (C := []) (fun i hi => absurd hi (Nat.not_lt_zero _)) ⟨l0, 0⟩
  generalize vioF [] ⟨l0, 0⟩ = W at hvf ⊢
  obtain ⟨a, d⟩ := W
  obtain ⟨hal, hag, _⟩ := hvf
  dsimp only at hal hag
  have hfa := good_fmt (good_mem hag)
  have hta := textV_len (good_V64 hag) a.length (Nat.le_refl _)
  rw [List.take_length] at hta
  conv => whnf
  refine ⟨_, fun _ => call11 _ a (by omega) (good_V64 hag), ?_⟩
  rw [hfa]
  generalize textV a = w at hta ⊢
  have hwl : w.length ≤ 960 := by omega
  have hlen : (w ++ s).length = w.length + s.length := List.length_append
  conv => whnf
  refine ⟨?_, ?_⟩
  · (try conv => whnf)
    (repeat' (first | exact True.intro | exact fun _ h => h | refine inR64_of ?_ ?_ | apply And.intro | refine maxLen_ge ?_)) <;> (first | omega | decide | (dsimp only; omega) | (dsimp only [List.length_cons, List.length_nil]; omega) | (intro hg; rw [hg]; rfl) | (intro hg hh; rw [hg, hh]; rfl) | (intro hg; simp [-List.getD_eq_getElem?_getD, -Int.default_eq_zero] at hg; first | omega | (refine inR64_of ?_ ?_ <;> omega) | (constructor <;> omega)) | (simp [-List.getD_eq_getElem?_getD, -Int.default_eq_zero]; done))
  refine LSem.meet (n := 142) mix (α := Nat → List PV) (fun f => areBytes (w ++ s).length f)
    (fun f => [(1, .sl 1 4 raw.length (fl eVi raw)), (2, .str s), (3, .int .u8 at_), (11, .sl 0 4 a.length (fl eVi a)), (12, .str w), (14, .os 880)])
    (fun f => [(880, .row 0 5 1 (w ++ s).length f)]) ?_ ?_
  · conv => whnf
    refine ⟨?_, fun hc => ?_, fun hc => ?_⟩
    · (try conv => whnf)
      (repeat' (first | exact True.intro | exact fun _ h => h | refine inR64_of ?_ ?_ | apply And.intro | refine maxLen_ge ?_)) <;> (first | omega | decide | (dsimp only; omega) | (dsimp only [List.length_cons, List.length_nil]; omega) | (intro hg; rw [hg]; rfl) | (intro hg hh; rw [hg, hh]; rfl) | (intro hg; simp [-List.getD_eq_getElem?_getD, -Int.default_eq_zero] at hg; first | omega | (refine inR64_of ?_ ?_ <;> omega) | (constructor <;> omega)) | (simp [-List.getD_eq_getElem?_getD, -Int.default_eq_zero]; done))
    · have hpos : (0 : Int) < ((w ++ s).length : Int) := of_decide_eq_true hc
      have hm1 : 0 ≤ at_.tmod ((w ++ s).length : Int) := Int.tmod_nonneg _ h1.1
      have hm2 : at_.tmod ((w ++ s).length : Int) < ((w ++ s).length : Int) := Int.tmod_lt_of_pos _ hpos
      conv => whnf
      refine ⟨?_, _, areBytes_set (i := (at_.tmod ((w ++ s).length : Int)).toNat) h2, rfl, rfl, ?_, ?_⟩
      · (try conv => whnf)
        (repeat' (first | exact True.intro | exact fun _ h => h | refine inR64_of ?_ ?_ | apply And.intro | refine maxLen_ge ?_)) <;> (first | omega | (dsimp only; omega))
      all_goals repeat' (first | exact True.intro | refine leF_cons rfl ?_ ?_ | refine leS_cons rfl ?_ ?_ | (show PLe _ _ _ _; conv => whnf) | (show SLe _ _ _ _; conv => whnf) | (show PLeL _ _ _ _; conv => whnf) | apply And.intro | rfl | exact Nat.le_refl _ | exact fun _ _ => rfl | exact rowEq0 _ _)
      all_goals skip
    · conv => whnf
      refine ⟨?_, _, fun k _ => ⟨(w ++ s).getD k 0, rfl⟩, rfl, rfl, ?_, ?_⟩
      · (try conv => whnf)
        (repeat' (first | exact True.intro | exact fun _ h => h | refine inR64_of ?_ ?_ | apply And.intro | refine maxLen_ge ?_)) <;> (first | omega | decide | (dsimp only; omega) | (dsimp only [List.length_cons, List.length_nil]; omega) | (intro hg; rw [hg]; rfl) | (intro hg hh; rw [hg, hh]; rfl) | (intro hg; simp [-List.getD_eq_getElem?_getD, -Int.default_eq_zero] at hg; first | omega | (refine inR64_of ?_ ?_ <;> omega) | (constructor <;> omega)) | (simp [-List.getD_eq_getElem?_getD, -Int.default_eq_zero]; done))
      all_goals repeat' (first | exact True.intro | refine leF_cons rfl ?_ ?_ | refine leS_cons rfl ?_ ?_ | (show PLe _ _ _ _; conv => whnf) | (show SLe _ _ _ _; conv => whnf) | (show PLeL _ _ _ _; conv => whnf) | apply And.intro | rfl | exact Nat.le_refl _ | exact fun _ _ => rfl | exact rowEq0 _ _)
      all_goals skip
  · intro f hf
    obtain ⟨X, hX⟩ : ∃ X, X = strOf (w ++ s).length f := ⟨_, rfl⟩
    have hXl : X.length = (w ++ s).length := by rw [hX, strOf_len]
    have hw0 : (0 : Int) < (w.length : Int) + 1 := by omega
    have hm1 : 0 ≤ at_.tmod ((w.length : Int) + 1) := Int.tmod_nonneg _ h1.1
    have hm2 : at_.tmod ((w.length : Int) + 1) < (w.length : Int) + 1 := Int.tmod_lt_of_pos _ hw0
    obtain ⟨L, hL⟩ : ∃ L, L = [s, w, X, w ++ s, w.take (at_.tmod ((w.length : Int) + 1)).toNat] := ⟨_, rfl⟩
    have hLb : ∀ i, i < 5 → (L.getD i default).length ≤ 30000 := fun i hi => by
      rw [hL]
      match i, hi with
      | 0, _ => show s.length ≤ _; omega
      | 1, _ => show w.length ≤ _; omega
      | 2, _ => show X.length ≤ _; omega
      | 3, _ => show (w ++ s).length ≤ _; omega
      | 4, _ => show (w.take _).length ≤ _; rw [List.length_take]; omega
    conv => whnf
    refine ⟨rfl, ?_⟩
    conv => whnf
    refine ⟨?_, ?_⟩
    · (try conv => whnf)
      (repeat' (first | exact True.intro | exact hf | exact fun _ h => h | refine inR64_of ?_ ?_ | apply And.intro | refine maxLen_ge ?_)) <;> (first | omega | (dsimp only; omega) | (dsimp only [List.length_cons, List.length_nil]; omega))
    refine LSem.loop (n := 142) mix (α := Nat) (fun i => i ≤ 5)
      (fun i => [(1, .sl 1 4 raw.length (fl eVi raw)), (11, .sl 0 4 a.length (fl eVi a)), (82, .os 1312), (83, .int .i64 5), (84, .int .i64 i)])
      (fun i => [(1312, .row 0 9 1 5 (fl eStr L))]) (fun i => 5 - i) 0 ?_ ?_ ?_
    · exact Nat.zero_le _
    · refine ⟨rfl, rfl, ?_, ?_⟩
      all_goals repeat' (first | exact True.intro | refine leF_cons rfl ?_ ?_ | refine leS_cons rfl ?_ ?_ | (show PLe _ _ _ _; conv => whnf) | (show SLe _ _ _ _; conv => whnf) | (show PLeL _ _ _ _; conv => whnf) | apply And.intro | rfl | exact Nat.le_refl _ | exact fun _ _ => rfl | exact rowEq0 _ _)
      all_goals first | (rw [hL]; exact rowEq5 rfl rfl (by rw [hX]; rfl) rfl rfl) | skip
    · intro i hi
      have hji : ((i : Int)).toNat = i := by omega
      conv => whnf
      refine ⟨trivial, fun hc2 => ?_, fun hc2 => ?_⟩
      · replace hc2 := of_decide_eq_true hc2
        have hlt : i < 5 := by
          have h : (i : Int) < 5 := hc2
          omega
        have hb := hLb i hlt
        conv => whnf
        rw [hji]
        generalize L.getD i default = v at hb ⊢
        refine ⟨_, fun _ => call12 v (by omega), ?_⟩
        conv => whnf
        refine ⟨_, fun _ => call13 v (by omega), ?_⟩
        have hpl := parseV_len v
        generalize parseV v = R at hpl ⊢
        conv => whnf
        refine ⟨_, fun _ => call14 _ _ R.1 R.1 (by omega), ?_⟩
        rw [show decide (R.1 = R.1) = true from decide_eq_true rfl]
        conv => whnf
        refine ⟨?_, fun h => ?_, fun _ => ?_⟩
        · (try conv => whnf)
          (repeat' (first | exact True.intro | exact fun _ h => h | refine inR64_of ?_ ?_ | apply And.intro | refine maxLen_ge ?_)) <;> (first | omega | decide | (dsimp only; omega) | (dsimp only [List.length_cons, List.length_nil]; omega) | (intro hg; rw [hg]; rfl) | (intro hg hh; rw [hg, hh]; rfl) | (intro hg; simp [-List.getD_eq_getElem?_getD, -Int.default_eq_zero] at hg; first | omega | (refine inR64_of ?_ ?_ <;> omega) | (constructor <;> omega)) | (simp [-List.getD_eq_getElem?_getD, -Int.default_eq_zero]; done))
        · exfalso
          revert h
          simp
        conv => whnf
        refine ⟨?_, i + 1, hlt, ?_, rfl, rfl, ?_, ?_⟩
        · (try conv => whnf)
          (repeat' (first | exact True.intro | exact fun _ h => h | refine inR64_of ?_ ?_ | apply And.intro | refine maxLen_ge ?_)) <;> (first | omega | decide | (dsimp only; omega) | (dsimp only [List.length_cons, List.length_nil]; omega) | (intro hg; rw [hg]; rfl) | (intro hg hh; rw [hg, hh]; rfl) | (intro hg; simp [-List.getD_eq_getElem?_getD, -Int.default_eq_zero] at hg; first | omega | (refine inR64_of ?_ ?_ <;> omega) | (constructor <;> omega)) | (simp [-List.getD_eq_getElem?_getD, -Int.default_eq_zero]; done))
        · omega
        all_goals repeat' (first | exact True.intro | refine leF_cons rfl ?_ ?_ | refine leS_cons rfl ?_ ?_ | (show PLe _ _ _ _; conv => whnf) | (show SLe _ _ _ _; conv => whnf) | (show PLeL _ _ _ _; conv => whnf) | apply And.intro | rfl | exact Nat.le_refl _ | exact fun _ _ => rfl | exact rowEq0 _ _)
        all_goals first | omega | skip
      · replace hc2 := of_decide_eq_false hc2
        conv => whnf
        refine ⟨?_, ?_⟩
        · (try conv => whnf)
          (repeat' (first | exact True.intro | exact fun _ h => h | refine inR64_of ?_ ?_ | apply And.intro | refine maxLen_ge ?_)) <;> (first | omega | decide | (dsimp only; omega) | (dsimp only [List.length_cons, List.length_nil]; omega) | (intro hg; rw [hg]; rfl) | (intro hg hh; rw [hg, hh]; rfl) | (intro hg; simp [-List.getD_eq_getElem?_getD, -Int.default_eq_zero] at hg; first | omega | (refine inR64_of ?_ ?_ <;> omega) | (constructor <;> omega)) | (simp [-List.getD_eq_getElem?_getD, -Int.default_eq_zero]; done))
        refine LSem.loop (n := 142) mix (α := Nat) (fun i => i ≤ 2)
          (fun i => [(117, .os 1872), (118, .int .i64 2), (119, .int .i64 i)])
          (fun i => [(1872, .row 1 23 1 2 (fun i => [[PV.sl 1 4 raw.length (fl eVi raw)], [.sl 0 4 a.length (fl eVi a)]].getD i []))]) (fun i => 2 - i) 0 ?_ ?_ ?_
        · exact Nat.zero_le _
        · refine ⟨rfl, rfl, ?_, ?_⟩
          all_goals repeat' (first | exact True.intro | refine leF_cons rfl ?_ ?_ | refine leS_cons rfl ?_ ?_ | (show PLe _ _ _ _; conv => whnf) | (show SLe _ _ _ _; conv => whnf) | (show PLeL _ _ _ _; conv => whnf) | apply And.intro | rfl | exact Nat.le_refl _ | exact fun _ _ => rfl | exact rowEq0 _ _)
          all_goals skip
        · intro i hi
          have h012 : i = 0 ∨ i = 1 ∨ i = 2 := by omega
          rcases h012 with rfl | rfl | rfl
          · conv => whnf
            refine ⟨trivial, fun _ => ?_, fun hc => (by cases hc)⟩
            conv => whnf
            refine ⟨_, fun _ => call15 _ raw (by omega) hV, ?_⟩
            conv => whnf
            refine ⟨_, fun _ => call11 _ raw (by omega) hV, ?_⟩
            generalize formatV raw = F
            conv => whnf
            refine ⟨?_, fun h => ?_, fun _ => ?_⟩
            · (try conv => whnf)
              (repeat' (first | exact True.intro | exact fun _ h => h | refine inR64_of ?_ ?_ | apply And.intro | refine maxLen_ge ?_)) <;> (first | omega | decide | (dsimp only; omega) | (dsimp only [List.length_cons, List.length_nil]; omega) | (intro hg; rw [hg]; rfl) | (intro hg hh; rw [hg, hh]; rfl) | (intro hg; simp [-List.getD_eq_getElem?_getD, -Int.default_eq_zero] at hg; first | omega | (refine inR64_of ?_ ?_ <;> omega) | (constructor <;> omega)) | (simp [-List.getD_eq_getElem?_getD, -Int.default_eq_zero]; done))
            · exfalso
              revert h
              simp
            conv => whnf
            refine ⟨?_, 1, by omega, by omega, rfl, rfl, ?_, ?_⟩
            · (try conv => whnf)
              (repeat' (first | exact True.intro | exact fun _ h => h | refine inR64_of ?_ ?_ | apply And.intro | refine maxLen_ge ?_)) <;> (first | omega | decide | (dsimp only; omega) | (dsimp only [List.length_cons, List.length_nil]; omega) | (intro hg; rw [hg]; rfl) | (intro hg hh; rw [hg, hh]; rfl) | (intro hg; simp [-List.getD_eq_getElem?_getD, -Int.default_eq_zero] at hg; first | omega | (refine inR64_of ?_ ?_ <;> omega) | (constructor <;> omega)) | (simp [-List.getD_eq_getElem?_getD, -Int.default_eq_zero]; done))
            all_goals repeat' (first | exact True.intro | refine leF_cons rfl ?_ ?_ | refine leS_cons rfl ?_ ?_ | (show PLe _ _ _ _; conv => whnf) | (show SLe _ _ _ _; conv => whnf) | (show PLeL _ _ _ _; conv => whnf) | apply And.intro | rfl | exact Nat.le_refl _ | exact fun _ _ => rfl | exact rowEq0 _ _)
            all_goals skip
          · conv => whnf
            refine ⟨trivial, fun _ => ?_, fun hc => (by cases hc)⟩
            conv => whnf
            refine ⟨_, fun _ => call15 _ a (by omega) (good_V64 hag), ?_⟩
            conv => whnf
            refine ⟨_, fun _ => call11 _ a (by omega) (good_V64 hag), ?_⟩
            generalize formatV a = F
            conv => whnf
            refine ⟨?_, fun h => ?_, fun _ => ?_⟩
            · (try conv => whnf)
              (repeat' (first | exact True.intro | exact fun _ h => h | refine inR64_of ?_ ?_ | apply And.intro | refine maxLen_ge ?_)) <;> (first | omega | decide | (dsimp only; omega) | (dsimp only [List.length_cons, List.length_nil]; omega) | (intro hg; rw [hg]; rfl) | (intro hg hh; rw [hg, hh]; rfl) | (intro hg; simp [-List.getD_eq_getElem?_getD, -Int.default_eq_zero] at hg; first | omega | (refine inR64_of ?_ ?_ <;> omega) | (constructor <;> omega)) | (simp [-List.getD_eq_getElem?_getD, -Int.default_eq_zero]; done))
            · exfalso
              revert h
              simp
            conv => whnf
            refine ⟨?_, 2, by omega, by omega, rfl, rfl, ?_, ?_⟩
            · (try conv => whnf)
              (repeat' (first | exact True.intro | exact fun _ h => h | refine inR64_of ?_ ?_ | apply And.intro | refine maxLen_ge ?_)) <;> (first | omega | decide | (dsimp only; omega) | (dsimp only [List.length_cons, List.length_nil]; omega) | (intro hg; rw [hg]; rfl) | (intro hg hh; rw [hg, hh]; rfl) | (intro hg; simp [-List.getD_eq_getElem?_getD, -Int.default_eq_zero] at hg; first | omega | (refine inR64_of ?_ ?_ <;> omega) | (constructor <;> omega)) | (simp [-List.getD_eq_getElem?_getD, -Int.default_eq_zero]; done))
            all_goals repeat' (first | exact True.intro | refine leF_cons rfl ?_ ?_ | refine leS_cons rfl ?_ ?_ | (show PLe _ _ _ _; conv => whnf) | (show SLe _ _ _ _; conv => whnf) | (show PLeL _ _ _ _; conv => whnf) | apply And.intro | rfl | exact Nat.le_refl _ | exact fun _ _ => rfl | exact rowEq0 _ _)
            all_goals skip
          · conv => whnf
            refine ⟨trivial, fun hc => (by cases hc), fun hc => ?_⟩
            conv => whnf
            refine ⟨?_, [], ?_⟩
            · (try conv => whnf)
              (repeat' (first | exact True.intro | exact fun _ h => h | refine inR64_of ?_ ?_ | apply And.intro | refine maxLen_ge ?_)) <;> (first | omega | decide | (dsimp only; omega) | (dsimp only [List.length_cons, List.length_nil]; omega) | (intro hg; rw [hg]; rfl) | (intro hg hh; rw [hg, hh]; rfl) | (intro hg; simp [-List.getD_eq_getElem?_getD, -Int.default_eq_zero] at hg; first | omega | (refine inR64_of ?_ ?_ <;> omega) | (constructor <;> omega)) | (simp [-List.getD_eq_getElem?_getD, -Int.default_eq_zero]; done))
            conv => whnf
            refine ⟨rfl, ?_, trivial, trivial⟩
            all_goals repeat' (first | exact True.intro | refine leF_cons rfl ?_ ?_ | refine leS_cons rfl ?_ ?_ | (show PLe _ _ _ _; conv => whnf) | (show SLe _ _ _ _; conv => whnf) | (show PLeL _ _ _ _; conv => whnf) | apply And.intro | rfl | exact Nat.le_refl _ | exact fun _ _ => rfl | exact rowEq0 _ _)
end Pv
end Go.Proofs.YtafnkpmoolbjjaaDoor

/- ARGUMENTS AS THEY COME IN: what a readable argument stands for. -/
set_option linter.unusedSimpArgs false
set_option linter.unusedVariables false
namespace Go.Proofs.YtafnkpmoolbjjaaDoor
namespace Pv
open Go.RowKit Go.ChangeShapes

/-- The shape of a cell. -/
inductive Sh where
  | int (k : IntKind)
  | bool
  | str
  | sl (shs : List Sh)
  deriving Inhabited

inductive ShR : Sh → PV → Prop where
  | int (k : IntKind) (n : Int) (h : inR k n) : ShR (.int k) (.int k n)
  | bool (b : Bool) : ShR .bool (.bool b)
  | str (s : List UInt8) (h : s.length ≤ maxLen) : ShR .str (.str s)
  | sl (shs : List Sh) (n : Nat) (f : Nat → List PV) (hn : n ≤ maxLen) (h1 : ∀ i, i < n → (f i).length = shs.length)
      (h2 : ∀ (i j : Nat) (s : Sh) (p : PV), i < n → shs[j]? = some s → (f i)[j]? = some p → ShR s p) : ShR (.sl shs) (.sl 1 shs.length n f)

def ShL (shs : List Sh) (ps : List PV) : Prop := ps.length = shs.length ∧ ∀ (j : Nat) (s : Sh) (p : PV), shs[j]? = some s → ps[j]? = some p → ShR s p

/-- The fields of a struct, one behind the other. -/
def fieldSh (sh : TypeId → Option (List Sh)) (P : Program) : Nat → List Field → Option (List Sh)
  | _, [] => some []
  | off, f :: fs => if f.offset = off then match sh f.type with
      | some s => if s.length = P.cellsOf f.type then match fieldSh sh P (off + s.length) fs with
          | some r => some (s ++ r)
          | none => none
        else none
      | none => none
    else none

/-- The shapes of a type's cells. -/
def shp (P : Program) : Nat → TypeId → Option (List Sh)
  | 0, _ => none
  | m + 1, t => match P.underlying t with
    | some .bool => some [.bool]
    | some (.int k) => some [.int k]
    | some .string => some [.str]
    | some (.slice e) => match shp P m e with
      | some s => if s.length = P.cellsOf e ∧ 0 < s.length then some [.sl s] else none
      | none => none
    | some (.struct fs) => match fieldSh (shp P m) P 0 fs.toList with
      | some s => if s.length = P.cellsOf t then some s else none
      | none => none
    | _ => none

theorem ShR.flat {s : Sh} {p : PV} (h : ShR s p) : p.flat = true := by cases h <;> rfl
theorem ShR.mark1 {s : Sh} {p : PV} (h : ShR s p) : p.mark 1 = p := by cases h <;> rfl

theorem ShL.append {a b : List Sh} {x y : List PV} (h : ShL a x) (h' : ShL b y) : ShL (a ++ b) (x ++ y) := by
  refine ⟨by simp [h.1, h'.1], fun j s p hs hp => ?_⟩
  rw [List.getElem?_append] at hs hp
  rw [h.1] at hp
  split at hs
  · rename_i hj; rw [if_pos hj] at hp; exact h.2 j s p hs hp
  · rename_i hj; rw [if_neg hj] at hp; exact h'.2 _ s p hs hp

section
variable {H : Type} {enc : TypeId × Value → H} {P : Program} {w : World} {sp : Nat → Bool} {held : Bool} {X : Cx} {γ : Gh}

theorem trod_fields {m n : Nat} {cs : List Value} {xs : List (DataW H × List MemPlace)}
    (ih : ∀ (t : TypeId) (cs : List Value) (x : DataW H × List MemPlace) (shs : List Sh), shp P m t = some shs → DataW.trod enc P w 0 sp held n t cs = some x → ∃ ps, ShL shs ps ∧ RepL X γ w ps cs ∧ ∀ u ∈ cs, u.oneCell' = true) :
    ∀ (fs : List Field) (off k : Nat) (shs : List Sh), fieldSh (shp P m) P off fs = some shs → off + shs.length = cs.length → (∀ i f, fs[i]? = some f → DataW.trod enc P w 0 sp held n f.type ((cs.drop f.offset).take (P.cellsOf f.type)) = xs[k + i]?) → k + fs.length = xs.length →
      ∃ ps, ShL shs ps ∧ RepL X γ w ps (cs.drop off) ∧ ∀ u ∈ cs.drop off, u.oneCell' = true
  | [], off, k, shs, h, hl, hx, hk => by
    simp only [fieldSh, Option.some.injEq] at h; subst h
    have e : cs.drop off = [] := List.drop_eq_nil_of_le (by simpa using hl.symm ▸ Nat.le_refl _)
    rw [e]
    exact ⟨[], ⟨rfl, fun j s p hs => by simp at hs⟩, RepL.nil_, by simp⟩
  | f :: fs, off, k, shs, h, hl, hx, hk => by
    simp only [fieldSh] at h
    split at h
    · rename_i hoff
      split at h
      · rename_i s hs
        split at h
        · rename_i hsl
          split at h
          · rename_i r hr
            injection h with h; subst h
            simp only [List.length_append] at hl
            obtain ⟨ps', h1, h2, h3⟩ := trod_fields (cs := cs) ih fs (off + s.length) (k + 1) r hr (by omega) (fun i f' hf => by
              have := hx (i + 1) f' (by simpa using hf)
              rw [show k + (i + 1) = k + 1 + i from by omega] at this; exact this) (by simp only [List.length_cons] at hk; omega)
            have h0 := hx 0 f rfl
            have hk0 : k + 0 < xs.length := by simp only [List.length_cons] at hk; omega
            rw [List.getElem?_eq_getElem hk0] at h0
            obtain ⟨ps, g1, g2, g3⟩ := ih _ _ _ _ hs h0
            rw [hoff, ← hsl] at g2 g3
            have e : cs.drop off = (cs.drop off).take s.length ++ cs.drop (off + s.length) := by
              rw [← List.drop_drop, List.take_append_drop]
            refine ⟨ps ++ ps', g1.append h1, ?_, ?_⟩
            · rw [e]; exact g2.append h2
            · rw [e]
              intro u hu
              rcases List.mem_append.1 hu with hu | hu
              · exact g3 u hu
              · exact h3 u hu
          · cases h
        · cases h
      · cases h
    · cases h

theorem trod_rep (hX : ∀ b, b < w.heap.size → mayLie X γ 1 b) : ∀ (m fuel : Nat) (t : TypeId) (cs : List Value) (x : DataW H × List MemPlace) (shs : List Sh), shp P m t = some shs → DataW.trod enc P w 0 sp held fuel t cs = some x →
    ∃ ps, ShL shs ps ∧ RepL X γ w ps cs ∧ ∀ u ∈ cs, u.oneCell' = true := by
  have one : ∀ (s : Sh) (p : PV) (v : Value), ShR s p → Rep X γ w p v → v.oneCell' = true → ∃ ps, ShL [s] ps ∧ RepL X γ w ps [v] ∧ ∀ u ∈ [v], u.oneCell' = true := fun s p v h1 h2 h3 =>
    ⟨[p], ⟨rfl, fun j s' p' hs hp => by
      cases j with
      | zero => simp only [List.getElem?_cons_zero, Option.some.injEq] at hs hp; subst hs; subst hp; exact h1
      | succ j => simp at hs⟩, RepL.cons_ h2 RepL.nil_, by simpa using h3⟩
  intro m
  induction m with
  | zero => intro fuel t cs x shs h; simp [shp] at h
  | succ m ih =>
    intro fuel t cs x shs h hd
    simp only [shp] at h
    split at h
    · rename_i ht
      injection h with h; subst h
      obtain ⟨b, rfl, _⟩ := DataW.trod_bool ht hd
      exact one _ _ _ (.bool b) (.bool b) rfl
    · rename_i k ht
      injection h with h; subst h
      obtain ⟨n, rfl, _, hw⟩ := DataW.trod_int ht hd
      simp only [Lit.wf, Bool.and_eq_true, decide_eq_true_eq] at hw
      exact one _ _ _ (.int k n hw) (.int k n) rfl
    · rename_i ht
      injection h with h; subst h
      obtain ⟨s, rfl, _, hw⟩ := DataW.trod_string ht hd
      have e : s = ⟨s.data.toList.toArray⟩ := by cases s; simp
      refine one _ (.str s.data.toList) _ (.str _ (by rw [Array.length_toList]; exact hw)) ?_ rfl
      have := Rep.str (X := X) (γ := γ) (w := w) s.data.toList
      rwa [← e] at this
    · rename_i e ht
      split at h
      · rename_i s hs
        split at h
        · rename_i hc
          obtain ⟨hsl, hpos⟩ := hc
          injection h with h; subst h
          rcases DataW.trod_slice ht hd with ⟨rfl, _⟩ | ⟨a, len, cap, elems, rest, n, hf, rfl, _, hb, hlc, hcm, hel, helem, _, _⟩
          · refine one _ (.sl 1 s.length 0 (fun _ => [])) _ (.sl s 0 _ (Nat.zero_le _) (fun i hi => by omega) (fun i j s p hi => by omega)) ?_ rfl
            exact .sl 1 _ 0 _ none 0 (fun _ => undef) (Nat.le_refl _) (fun i hi => by omega) (fun i hi => by omega) (fun hi => by omega) (fun i j c hi => by omega)
          · have hex : ∀ i, ∃ ps, i < len → ShL s ps ∧ ∃ cs', w.cells? 0 (a.add (i * P.cellsOf e)) (P.cellsOf e) = some cs' ∧ RepL X γ w ps cs' := fun i => by
              by_cases hi : i < len
              · have h1 := helem i hi
                rw [List.getElem?_eq_getElem (by omega)] at h1
                obtain ⟨cs', h2, h3⟩ := Option.bind_eq_some_iff.1 h1
                obtain ⟨ps, g1, g2, _⟩ := ih _ _ _ _ _ hs h3
                exact ⟨ps, fun _ => ⟨g1, cs', h2, g2⟩⟩
              · exact ⟨[], fun h => absurd h hi⟩
            let f : Nat → List PV := fun i => Classical.choose (hex i)
            have hf' : ∀ i, i < len → ShL s (f i) ∧ ∃ cs', w.cells? 0 (a.add (i * P.cellsOf e)) (P.cellsOf e) = some cs' ∧ RepL X γ w (f i) cs' := fun i => Classical.choose_spec (hex i)
            have hcell : ∀ i j, i < len → j < s.length → ∃ u p, w.cell? (a.add (i * s.length + j)) = some u ∧ (f i)[j]? = some p ∧ Rep X γ w p u := fun i j hi hj => by
              obtain ⟨g1, cs', g2, g3⟩ := hf' i hi
              obtain ⟨_, k2, k3⟩ := World.cells?_some g2
              have hj' : j < cs'.length := by rw [k2, ← hsl]; exact hj
              have hk := k3 j (by rw [← hsl]; exact hj)
              rw [List.getElem?_eq_getElem hj', add_add_, ← hsl] at hk
              have hpj : j < (f i).length := by rw [g1.1]; exact hj
              exact ⟨_, _, hk, List.getElem?_eq_getElem hpj, g3.2 j _ _ (List.getElem?_eq_getElem hpj) (List.getElem?_eq_getElem hj')⟩
            refine one _ (.sl 1 s.length len f) _ (.sl s len f (Nat.le_trans hlc hcm) (fun i hi => (hf' i hi).1.1) (fun i j s' p hi hs' hp => (hf' i hi).1.2 j s' p hs' hp)) ?_ rfl
            have hsh : ∀ i, i < len → ∀ c ∈ f i, ∃ s', ShR s' c := fun i hi c hc => by
              obtain ⟨j, hj⟩ := List.getElem?_of_mem hc
              have hlt := (List.getElem?_eq_some_iff.1 hj).1
              have hlt2 : j < s.length := by rw [← (hf' i hi).1.1]; exact hlt
              exact ⟨_, (hf' i hi).1.2 j _ _ (List.getElem?_eq_getElem hlt2) hj⟩
            refine .sl 1 s.length len f (some a) cap (fun k => (w.cell? (a.add k)).getD undef) hlc (fun i hi => (hf' i hi).1.1) (fun i hi c hc => by obtain ⟨s', h⟩ := hsh i hi c hc; exact h.flat) (fun hn => ?_) (fun i j c hi hc => ?_)
            · obtain ⟨u, p, h1, _, _⟩ := hcell 0 0 hn hpos
              have hblk : a.block < w.heap.size := by
                obtain ⟨_, cs', g2, _⟩ := hf' 0 hn
                have := World.cells?_block g2 (by omega)
                have e : (a.add (0 * P.cellsOf e)).block = a.block := by unfold Addr.add; split <;> rfl
                rwa [e] at this
              refine ⟨a, rfl, hX _ hblk, hblk, fun k hk => ?_⟩
              have hk1 : k / s.length < len := by rw [Nat.div_lt_iff_lt_mul hpos]; exact hk
              obtain ⟨u, p, h1, _, _⟩ := hcell (k / s.length) (k % s.length) hk1 (Nat.mod_lt _ hpos)
              rw [Nat.mul_comm, Nat.div_add_mod] at h1
              rw [h1]; rfl
            · have hj : j < s.length := by rw [← (hf' i hi).1.1]; exact (List.getElem?_eq_some_iff.1 hc).1
              obtain ⟨u, p, h1, h2, h3⟩ := hcell i j hi hj
              rw [h2] at hc; injection hc with hc; subst hc
              obtain ⟨s', h⟩ := hsh i hi p (List.mem_of_getElem? h2)
              rw [h.mark1, h1]; exact h3
        · cases h
      · cases h
    · rename_i fs ht
      split at h
      · rename_i s hs
        split at h
        · rename_i hsl
          injection h with h; subst h
          obtain ⟨xs, n, rfl, _, hcl, hxl, hx⟩ := DataW.trod_struct ht hd
          obtain ⟨ps, h1, h2, h3⟩ := trod_fields (cs := cs) (xs := xs) (ih n) fs.toList 0 0 s hs (by omega) (fun i f hf => by rw [Nat.zero_add]; exact hx i f (by simpa using hf)) (by simpa using hxl.symm)
          exact ⟨ps, h1, by simpa using h2, by simpa using h3⟩
        · cases h
      · cases h
    · cases h
end
end Pv
end Go.Proofs.YtafnkpmoolbjjaaDoor

/- A LAW's ROW, FROM ITS FUNCTION's CONTRACT. -/
set_option linter.unusedSimpArgs false
set_option linter.unusedVariables false
namespace Go.Proofs.YtafnkpmoolbjjaaDoor
namespace Pv
open Go.RowKit Go.ChangeShapes

section
variable {H : Type} {enc : TypeId × Value → H} {P : Program} {w : World} {sp : Nat → Bool} {held : Bool}

/-- How a law sees the world that it is called in: all that is there stays. -/
def cx0 (w : World) : Cx := ⟨w.heap.size, fun b => b < w.heap.size, fun _ => False, 0, fun _ => none⟩
def gh0 : Gh := fun _ => none
theorem gh0_own (b : Nat) : ¬ gh0.own b := by rintro ⟨r, ge, h, _⟩; cases h
theorem lie0 (b : Nat) (hb : b < w.heap.size) : mayLie (cx0 w) gh0 1 b := ⟨gh0_own b, .inr (.inl ⟨Nat.le_refl _, hb⟩)⟩
/-- The package variables that are known hold what is known of them. -/
def GlobOK (w : World) : Prop := ∀ b p, glob b = some p → ∃ o, w.heap[b]? = some o ∧ p o
theorem globOK_none (h : ∀ b, glob b = none) : GlobOK w := fun b p hb => by rw [h b] at hb; cases hb
theorem st0 (hgl : GlobOK w) : RepSt (cx0 w) gh0 w (fun r => ([] : List SE)[r]?) :=
  ⟨fun r => by simp [gh0], fun r ge e h => (by cases h), fun r r' ge ge' b h => (by cases h), fun b hb => absurd hb (gh0_own b), fun b hb => absurd hb (gh0_own b), fun b p hb => ⟨hgl b p hb, gh0_own b, by
    obtain ⟨o, h1, _⟩ := hgl b p hb
    exact (Array.getElem?_eq_some_iff.1 h1).1⟩⟩

theorem law_calls (hgl : GlobOK w) {f : FuncId} {args : List PV} {vals : List Value} (h : PureCall P f args [] ⟨.bool true, [], []⟩) (hr : RepL (cx0 w) gh0 w args vals) :
    Calls P f vals.toArray w fun e w' => e = .returned (.bool true) ∧ Below w.heap.size w w' := by
  have hst : RepSt ⟨w.heap.size, (cx0 w).as, (cx0 w).ls, ([] : List SE).length, gh0⟩ gh0 w (fun r => ([] : List SE)[r]?) :=
    st0 (w := w) hgl
  refine (h.2 w gh0 (cx0 w).as (cx0 w).ls vals hst (fun b hb => hb.elim (fun h => h) (fun h => h.elim)) hr).mono ?_
  rintro e w' ⟨v, γ', rfl, hv, _, hk, _, _⟩
  cases hv.bool_inv
  exact ⟨rfl, hk.os, hk.tape, hk.output, hk.size, fun k hk' => hk.block k hk' (gh0_own k)⟩

theorem arg_one {m : Nat} {t : TypeId} {s : Sh} {v : Value} {d : DataW H} {ps : List MemPlace} (hs : shp P m t = some [s]) (hv : v.oneCell' = true) (h : DataW.Trod enc P w 0 sp held t v d ps) : ∃ p, ShR s p ∧ Rep (cx0 w) gh0 w p v := by
  obtain ⟨fuel, hf⟩ := h
  rw [cells_one hv] at hf
  obtain ⟨ps, h1, h2, _⟩ := trod_rep (X := cx0 w) (γ := gh0) lie0 _ _ _ _ _ _ hs hf
  obtain ⟨h1, h1'⟩ := h1
  match ps, h1 with
  | [p], _ =>
    obtain ⟨u, us, hu, hr, _⟩ := h2.cons_inv
    simp only [List.cons.injEq] at hu
    exact ⟨p, h1' 0 s p rfl rfl, by rw [hu.1]; exact hr⟩
theorem arg_agg {m : Nat} {t : TypeId} {shs : List Sh} {cs : Array Value} {d : DataW H} {ps : List MemPlace} (hs : shp P m t = some shs) (h : DataW.Trod enc P w 0 sp held t (.agg cs) d ps) : ∃ qs, ShL shs qs ∧ Rep (cx0 w) gh0 w (.agg qs) (.agg cs) := by
  obtain ⟨fuel, hf⟩ := h
  obtain ⟨qs, h1, h2, h3⟩ := trod_rep (X := cx0 w) (γ := gh0) lie0 _ _ _ _ _ _ hs hf
  have := Rep.agg qs cs.toList h2.1 h3 h2.2
  exact ⟨qs, h1, by simpa using this⟩

theorem Rep.le0 (hgl : GlobOK w) {p q : PV} {v : Value} (h : Rep (cx0 w) gh0 w p v) (hl : PLe (fun r => ([] : List SE)[r]?) (fun _ => true) p q) : Rep (cx0 w) gh0 w q v :=
  h.le (γk := gh0) (st0 hgl) (fun r ge b τ e z n f hr => (by cases hr)) (fun r ge hr _ => hr) (fun r ge hr => ⟨hr, rfl⟩) q hl

/-- A slice that came in, as a list. -/
theorem sh_list (hgl : GlobOK w) {α : Type} [Inhabited α] (e : α → List PV) (Q : α → Prop) {shs : List Sh} (hdec : ∀ ps, ShL shs ps → ∃ x, ps = e x ∧ Q x) {p : PV} (h : ShR (.sl shs) p) {v : Value} (hr : Rep (cx0 w) gh0 w p v) :
    ∃ l : List α, Rep (cx0 w) gh0 w (.sl 1 shs.length l.length (fl e l)) v ∧ l.length ≤ maxLen ∧ ∀ x ∈ l, Q x := by
  cases h with
  | sl _ n f hn h1 h2 =>
    have hx : ∀ i, ∃ x, i < n → f i = e x ∧ Q x := fun i => by
      by_cases hi : i < n
      · obtain ⟨x, hx⟩ := hdec (f i) ⟨h1 i hi, fun j s p hs hp => h2 i j s p hi hs hp⟩
        exact ⟨x, fun _ => hx⟩
      · exact ⟨default, fun h => absurd h hi⟩
    let g : Nat → α := fun i => Classical.choose (hx i)
    have hg : ∀ i, i < n → f i = e (g i) ∧ Q (g i) := fun i => Classical.choose_spec (hx i)
    refine ⟨(List.range n).map g, hr.le0 hgl ?_, by simpa using hn, fun x hm => ?_⟩
    · refine ⟨Nat.le_refl _, rfl, by simp, fun i hi => ?_⟩
      rw [(hg i hi).1]
      simp [fl, List.getD_eq_getElem?_getD, hi]
    · obtain ⟨i, hi, rfl⟩ := List.mem_map.1 hm
      exact (hg i (List.mem_range.1 hi)).2

theorem sh_int {k : IntKind} {p : PV} (h : ShR (.int k) p) : ∃ n, p = .int k n ∧ inR k n := by cases h with | int _ n h => exact ⟨n, rfl, h⟩
theorem sh_bool {p : PV} (h : ShR .bool p) : ∃ b, p = .bool b := by cases h with | bool b => exact ⟨b, rfl⟩
theorem sh_str {p : PV} (h : ShR .str p) : ∃ s, p = .str s ∧ s.length ≤ maxLen := by cases h with | str s h => exact ⟨s, rfl, h⟩
theorem shl_cons {s : Sh} {ss : List Sh} {ps : List PV} (h : ShL (s :: ss) ps) : ∃ p qs, ps = p :: qs ∧ ShR s p ∧ ShL ss qs := by
  obtain ⟨h1, h2⟩ := h
  match ps, h1 with
  | p :: qs, h1 => exact ⟨p, qs, rfl, h2 0 s p rfl rfl, by simpa using h1, fun j s' p' hs hp => h2 (j + 1) s' p' (by simpa using hs) (by simpa using hp)⟩
theorem shl_nil {ps : List PV} (h : ShL [] ps) : ps = [] := List.eq_nil_of_length_eq_zero h.1
end
end Pv
end Go.Proofs.YtafnkpmoolbjjaaDoor

/- A LAW's ROW, FROM ITS FUNCTION's CONTRACT: how long slices are that came in. -/
set_option linter.unusedSimpArgs false
set_option linter.unusedVariables false
namespace Go.Proofs.YtafnkpmoolbjjaaDoor
namespace Pv
open Go.RowKit Go.ChangeShapes

section
variable {H : Type} {enc : TypeId × Value → H} {P : Program} {w : World} {sp : Nat → Bool} {held : Bool}

theorem sized_len {ts : List TypeId} {ds : List (DataW H)} (hz : (DataW.weightsEach P ts ds).all (· ≤ reachBytes) = true) {j : Nat} {t e : TypeId} {d : DataW H} {ps : List MemPlace} {a : Option Addr} {len cap : Nat}
    (ht : ts[j]? = some t) (hd : ds[j]? = some d) (hu : P.underlying t = some (.slice e)) (h : DataW.Trod enc P w 0 sp held t (.slice a len cap) d ps)
    (hb : 0 < P.bytesOf e) {X : Cx} {γ : Gh} {τ z n : Nat} {f : Nat → List PV} (hr : Rep X γ w (.sl τ z n f) (.slice a len cap)) : n ≤ 140737488351232 := by
  have hn : n = len := by cases hr; rfl
  subst hn
  obtain ⟨fuel, hf⟩ := h
  rcases DataW.trod_slice hu hf with ⟨h1, _⟩ | ⟨a', len', cap', elems, rest, m, _, h1, h2, _, _, _, h3, _⟩
  · have h1' : Value.slice a n cap = .slice none 0 0 := by simpa [Value.cells] using h1
    injection h1' with _ h4 _
    omega
  · have h1' : Value.slice a n cap = .slice (some a') len' cap' := by simpa [Value.cells] using h1
    injection h1' with _ h4 _
    injection h2 with h5 _
    subst h5
    have := sized_slice hz ht hd hu
    simp only [List.length_map] at this
    have h6 : n * 1 ≤ (elems.length + rest.length) * P.bytesOf e := Nat.mul_le_mul (by omega) hb
    have h7 : reachBytes = 140737488351232 := rfl
    omega
end
end Pv
end Go.Proofs.YtafnkpmoolbjjaaDoor

set_option linter.unusedSimpArgs false
set_option linter.unusedVariables false
namespace Go.Proofs.YtafnkpmoolbjjaaDoor
namespace Pv
open Go.RowKit Go.ChangeShapes

section
variable {H : Type} {enc : TypeId × Value → H} {P : Program} {w : World} {sp : Nat → Bool} {held : Bool}

def eSl {α : Type} [Inhabited α] (k : Nat) (e : α → List PV) (m : List α) : List PV := [.sl 1 k m.length (fl e m)]

/-- A slice of slices that came in, as a list of lists. -/
theorem sh_list2 (hgl : GlobOK w) {α : Type} [Inhabited α] (e : α → List PV) (Q : α → Prop) {shs : List Sh} (hdec : ∀ ps, ShL shs ps → ∃ x, ps = e x ∧ Q x) {p : PV} (h : ShR (.sl [.sl shs]) p) {v : Value} (hr : Rep (cx0 w) gh0 w p v) :
    ∃ G : List (List α), Rep (cx0 w) gh0 w (.sl 1 1 G.length (fl (eSl shs.length e) G)) v ∧ G.length ≤ maxLen ∧ ∀ m ∈ G, ∀ x ∈ m, Q x := by
  cases h with
  | sl _ n f hn h1 h2 =>
    have hx : ∀ i, ∃ m : List α, i < n → ∃ f', f i = [.sl 1 shs.length m.length f'] ∧ RowEq m.length f' (fl e m) ∧ ∀ x ∈ m, Q x := fun i => by
      by_cases hi : i < n
      · have hl := h1 i hi
        match hf : f i, hl with
        | [c], _ =>
          have hc := h2 i 0 (.sl shs) c hi rfl (by rw [hf]; rfl)
          cases hc with
          | sl _ n' f' hn' g1 g2 =>
            have hy : ∀ i, ∃ x, i < n' → f' i = e x ∧ Q x := fun j => by
              by_cases hj : j < n'
              · obtain ⟨x, hx⟩ := hdec (f' j) ⟨g1 j hj, fun k s p hs hp => g2 j k s p hj hs hp⟩
                exact ⟨x, fun _ => hx⟩
              · exact ⟨default, fun h => absurd h hj⟩
            refine ⟨(List.range n').map fun j => Classical.choose (hy j), fun _ => ⟨f', by simp, fun j hj => ?_, fun x hm => ?_⟩⟩
            · simp only [List.length_map, List.length_range] at hj
              rw [(Classical.choose_spec (hy j) hj).1]
              simp [fl, List.getD_eq_getElem?_getD, hj]
            · obtain ⟨j, hj, rfl⟩ := List.mem_map.1 hm
              exact (Classical.choose_spec (hy j) (List.mem_range.1 hj)).2
      · exact ⟨[], fun h => absurd h hi⟩
    let g : Nat → List α := fun i => Classical.choose (hx i)
    have hg : ∀ i, i < n → ∃ f', f i = [.sl 1 shs.length (g i).length f'] ∧ RowEq (g i).length f' (fl e (g i)) ∧ ∀ x ∈ g i, Q x := fun i => Classical.choose_spec (hx i)
    refine ⟨(List.range n).map g, ?_, by simpa using hn, fun m hm => ?_⟩
    · have hget : ∀ i, i < n → fl (eSl shs.length e) ((List.range n).map g) i = [.sl 1 shs.length (g i).length (fl e (g i))] := fun i hi => by
        simp [fl, eSl, List.getD_eq_getElem?_getD, hi]
      have hlen : ((List.range n).map g).length = n := by simp
      cases hr with
      | sl _ _ _ _ ad cap vs hcap hz hf hb hh =>
        rw [hlen]
        refine .sl 1 1 n _ ad cap vs hcap (fun i hi => by rw [hget i hi]; rfl) (fun i hi c hc => ?_) hb (fun i j c hi hc => ?_)
        · rw [hget i hi] at hc
          rw [List.mem_singleton.1 hc]; rfl
        · rw [hget i hi] at hc
          obtain ⟨f', e1, e2, _⟩ := hg i hi
          cases j with
          | zero =>
            simp only [List.getElem?_cons_zero, Option.some.injEq] at hc
            subst hc
            have := hh i 0 _ hi (by rw [e1]; rfl)
            exact this.le0 hgl ⟨Nat.le_refl _, rfl, rfl, e2⟩
          | succ j => simp at hc
    · obtain ⟨i, hi, rfl⟩ := List.mem_map.1 hm
      obtain ⟨_, _, _, h3⟩ := hg i (List.mem_range.1 hi)
      exact h3

theorem weightsAll_mem {e : TypeId} : ∀ {l : List (DataW H)} {i : Nat} {d : DataW H}, l[i]? = some d → ∀ n ∈ d.weights P e, n ∈ DataW.weightsAll P e l
  | [], i, d, h, n, hn => by simp at h
  | x :: l, 0, d, h, n, hn => by
    simp only [List.getElem?_cons_zero, Option.some.injEq] at h
    subst h
    simp only [DataW.weightsAll, List.mem_append]; exact .inl hn
  | x :: l, i + 1, d, h, n, hn => by
    simp only [DataW.weightsAll, List.mem_append]; exact .inr (weightsAll_mem (by simpa using h) n hn)

theorem sized_len2 {ts : List TypeId} {ds : List (DataW H)} (hz : (DataW.weightsEach P ts ds).all (· ≤ reachBytes) = true) {j : Nat} {t e e2 : TypeId} {d : DataW H} {ps : List MemPlace} {a : Option Addr} {len cap : Nat}
    (ht : ts[j]? = some t) (hd : ds[j]? = some d) (hu : P.underlying t = some (.slice e)) (hu2 : P.underlying e = some (.slice e2)) (hce : P.cellsOf e = 1) (h : DataW.Trod enc P w 0 sp held t (.slice a len cap) d ps)
    {X : Cx} {γ : Gh} {τ n : Nat} {F : Nat → List PV} (hr : Rep X γ w (.sl τ 1 n F) (.slice a len cap)) {i τ' z' N : Nat} {f' : Nat → List PV} (hi : i < n) (hF : F i = [.sl τ' z' N f']) : N * P.bytesOf e2 ≤ 140737488351232 := by
  have hreach : reachBytes = 140737488351232 := rfl
  cases hr with
  | sl _ _ _ _ _ _ vs hcap hz' hf hb hh =>
  obtain ⟨a', rfl, _, _, hcell⟩ := hb (by omega)
  obtain ⟨fuel, hfu⟩ := h
  rcases DataW.trod_slice hu hfu with ⟨h1, _⟩ | ⟨a'', len', cap', elems, rest, m, _, h1, h2, _, _, _, h3, h4, _⟩
  · simp [Value.cells] at h1
  · have h1' : Value.slice (some a') len cap = .slice (some a'') len' cap' := by simpa [Value.cells] using h1
    injection h1' with h5 h6 h7
    injection h5 with h5
    subst h5; subst h6
    injection h2 with h8 _
    subst h8
    have h9 := h4 i hi
    rw [List.getElem?_eq_getElem (by omega), hce, Nat.mul_one] at h9
    obtain ⟨cs', g1, g2⟩ := Option.bind_eq_some_iff.1 h9
    obtain ⟨_, k2, k3⟩ := World.cells?_some g1
    have k4 := k3 0 (by omega)
    have hv := hcell i (by omega)
    rw [add_add_, Nat.add_zero, hv] at k4
    have hcs : cs' = [vs i] := by
      match cs', k2, k4 with
      | [x], _, k4 => simp only [List.getElem?_cons_zero, Option.some.injEq] at k4; rw [k4]
    have hrep := hh i 0 _ hi (by rw [hF]; rfl)
    rw [Nat.mul_one, Nat.add_zero] at hrep
    simp only [PV.mark] at hrep
    subst hcs
    generalize vs i = u at hrep g2
    cases hrep with
    | sl _ _ _ _ ad cap2 vs2 _ _ _ _ _ =>
    rcases DataW.trod_slice hu2 g2 with ⟨q1, _⟩ | ⟨b, len2, cap3, elems2, rest2, m2, _, q1, q2, _, _, _, q3, _⟩
    · have q1' : Value.slice ad N cap2 = .slice none 0 0 := by simpa using q1
      injection q1' with _ q5 _
      subst q5; rw [Nat.zero_mul]; exact Nat.zero_le _
    · have q1' : Value.slice ad N cap2 = .slice (some b) len2 cap3 := by simpa using q1
      injection q1' with _ q5 _
      subst q5
      have hmem : (elems2.map (·.1)).length * P.bytesOf e2 ≤ ((elems2.map (·.1)).length + (rest2.map (·.1)).length) * P.bytesOf e2 := Nat.mul_le_mul_right _ (by omega)
      have he : (elems.map (·.1))[i]? = some (DataW.slice (elems2.map (·.1)) (rest2.map (·.1))) := by
        rw [List.getElem?_map, List.getElem?_eq_getElem (by omega), Option.map_some, q2]
      have hw1 : ((elems2.map (·.1)).length + (rest2.map (·.1)).length) * P.bytesOf e2 ∈ DataW.weightsEach P ts ds := by
        refine DataW.weights_mem_each ht hd _ ?_
        simp only [DataW.weights, hu, List.mem_cons, List.mem_append]
        refine .inr (.inl (weightsAll_mem he _ ?_))
        simp [DataW.weights, hu2]
      have := List.all_eq_true.1 hz _ hw1
      have h10 : ((elems2.map (·.1)).length + (rest2.map (·.1)).length) * P.bytesOf e2 ≤ reachBytes := by simpa using this
      have h11 : (elems2.map (·.1)).length = N := by rw [List.length_map]; exact q3
      rw [h11] at hmem h10
      omega
end
end Pv
end Go.Proofs.YtafnkpmoolbjjaaDoor
