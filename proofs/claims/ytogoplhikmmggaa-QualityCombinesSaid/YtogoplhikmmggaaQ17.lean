/- LAW 08, THE WALKS: what several gauges say together: the function. -/
import Derived.Test.YtogoplhikmmggaaQ16
set_option linter.unusedSimpArgs false
set_option linter.unusedVariables false
namespace Go.Proofs.Ytogoplhikmmggaa
namespace Pv

def vE (C : List Ck) (G : List (List Rd)) (i : Nat) : Int := (verdictsF (C.getD i default) (G.getD i default)).2
def vL (C : List Ck) (G : List (List Rd)) : Nat → List (List Int)
  | 0 => []
  | i + 1 => vL C G i ++ [(verdictsF (C.getD i default) (G.getD i default)).1]
def stepsF (G : List (List Rd)) (i : Nat) : Int := if i = 0 then 0 else (G.getD (i - 1) default).length
def seenL (G : List (List Rd)) (t : Nat) : Nat → List Int
  | 0 => []
  | i + 1 => seenL G t i ++ [((G.getD i default).getD t default).v]
def goodV (V : List (List Int)) (t : Nat) : Nat → List Bool
  | 0 => []
  | i + 1 => goodV V t i ++ [(V.getD i default).getD t default == 1]
def oddN (x : List Int) (g : List Bool) (v most : Int) : Nat → Nat
  | 0 => 0
  | i + 1 => if g.getD i default = true ∧ most < mx (x.getD i default - v) (v - x.getD i default) then oddN x g v most i + 1 else oddN x g v most i
def voteT (G : List (List Rd)) (V : List (List Int)) (n t : Nat) : Int × Bool := voteF (seenL G t n) (goodV V t n)
def combT (G : List (List Rd)) (V : List (List Int)) (most : Int) (n : Nat) : Nat → List Int × List Bool × List Int
  | 0 => ([], [], [])
  | t + 1 => ((combT G V most n t).1 ++ [(voteT G V n t).1], (combT G V most n t).2.1 ++ [(voteT G V n t).2], (combT G V most n t).2.2 ++ [(oddN (seenL G t n) (goodV V t n) (voteT G V n t).1 most n : Int)])
def combF (C : List Ck) (G : List (List Rd)) (most : Int) : List Int × List Bool × List Int × Int :=
  if C.length ≠ G.length ∨ 0 ≤ ixG (lenP G) G 0 G.length then ([], [], [], 3) else if most < 0 then ([], [], [], 1)
  else if scan (vE C G) 0 G.length ≠ 0 then ([], [], [], scan (vE C G) 0 G.length)
  else ((combT G (vL C G G.length) most G.length (stepsF G G.length).toNat).1, (combT G (vL C G G.length) most G.length (stepsF G G.length).toNat).2.1, (combT G (vL C G G.length) most G.length (stepsF G G.length).toNat).2.2, 0)
theorem vL_len (C : List Ck) (G : List (List Rd)) : ∀ i, (vL C G i).length = i
  | 0 => rfl
  | i + 1 => by show (_ ++ [_]).length = _; rw [List.length_append, vL_len C G i]; rfl
theorem seenL_len (G : List (List Rd)) (t : Nat) : ∀ i, (seenL G t i).length = i
  | 0 => rfl
  | i + 1 => by show (_ ++ [_]).length = _; rw [List.length_append, seenL_len G t i]; rfl
theorem goodV_len (V : List (List Int)) (t : Nat) : ∀ i, (goodV V t i).length = i
  | 0 => rfl
  | i + 1 => by show (_ ++ [_]).length = _; rw [List.length_append, goodV_len V t i]; rfl
theorem oddN_le (x : List Int) (g : List Bool) (v most : Int) : ∀ i, oddN x g v most i ≤ i
  | 0 => Nat.le_refl _
  | i + 1 => by have := oddN_le x g v most i; unfold oddN; split <;> omega
theorem combT_len (G : List (List Rd)) (V : List (List Int)) (most : Int) (n : Nat) : ∀ t, (combT G V most n t).1.length = t ∧ (combT G V most n t).2.1.length = t ∧ (combT G V most n t).2.2.length = t
  | 0 => ⟨rfl, rfl, rfl⟩
  | t + 1 => by
    obtain ⟨h1, h2, h3⟩ := combT_len G V most n t
    refine ⟨?_, ?_, ?_⟩ <;> (show (_ ++ [_]).length = _; rw [List.length_append]) <;> first | (rw [h1]; rfl) | (rw [h2]; rfl) | (rw [h3]; rfl)
theorem getD_pushG {α : Type} [Inhabited α] (l : List α) (p : α) (i : Nat) : (l ++ [p]).getD i default = if i < l.length then l.getD i default else if i = l.length then p else default := by
  rw [List.getD_eq_getElem?_getD, List.getElem?_append]
  split
  · rw [List.getD_eq_getElem?_getD]
  · rename_i h
    split
    · rename_i h2; rw [h2, Nat.sub_self]; rfl
    · rename_i h2
      rw [List.getElem?_eq_none (by simp; omega)]; rfl
theorem vL_get (C : List Ck) (G : List (List Rd)) : ∀ n i, i < n → (vL C G n).getD i default = (verdictsF (C.getD i default) (G.getD i default)).1
  | 0, i, h => by omega
  | n + 1, i, h => by
    show (_ ++ [_]).getD i default = _
    rw [getD_pushG, vL_len]
    by_cases c : i < n
    · rw [if_pos c]; exact vL_get C G n i c
    · rw [if_neg c, if_pos (by omega), show i = n by omega]
theorem verdicts_len {c : Ck} {l : List Rd} (h : (verdictsF c l).2 = 0) : (verdictsF c l).1.length = l.length := by
  unfold verdictsF at h ⊢
  split at h
  · rename_i h1; exact absurd h h1
  · rename_i h1
    rw [if_neg h1]
    split at h
    · rename_i h2; exact absurd h h2
    · rename_i h2
      rw [if_neg h2, vSt_len]
theorem verdicts_rd {c : Ck} {l : List Rd} (h : (verdictsF c l).2 = 0) : ∀ t, t < l.length → 0 ≤ (l.getD t default).v ∧ (l.getD t default).v ≤ 1073741824 := fun t ht => by
  unfold verdictsF at h
  split at h
  · rename_i h1; exact absurd h h1
  · split at h
    · rename_i h2; exact absurd h h2
    · rename_i h2
      exact (rd_v (rd_ok (by omega) t ht)).2.2.1
theorem seen_get (G : List (List Rd)) (t : Nat) : ∀ n i, i < n → (seenL G t n).getD i default = ((G.getD i default).getD t default).v
  | 0, i, h => by omega
  | n + 1, i, h => by
    show (_ ++ [_]).getD i default = _
    rw [getD_pushG, seenL_len]
    by_cases c : i < n
    · rw [if_pos c]; exact seen_get G t n i c
    · rw [if_neg c, if_pos (by omega), show i = n by omega]
theorem goodL_mem {v : List Int} {g : List Bool} : ∀ n, n ≤ v.length → ∀ x ∈ goodL v g n, x ∈ v
  | 0, _, x, h => by simp [goodL] at h
  | n + 1, hn, x, h => by
    unfold goodL at h
    split at h
    · rcases List.mem_append.1 h with h | h
      · exact goodL_mem n (by omega) x h
      · rw [List.mem_singleton.1 h]; exact getD_mem (by omega)
    · exact goodL_mem n (by omega) x h
theorem vote_rng {v : List Int} {g : List Bool} {M : Int} (hM : 0 ≤ M) (h : ∀ i, i < v.length → 0 ≤ v.getD i default ∧ v.getD i default ≤ M) : 0 ≤ (voteF v g).1 ∧ (voteF v g).1 ≤ M := by
  unfold voteF
  split
  · exact ⟨Int.le_refl _, hM⟩
  · split
    · exact ⟨Int.le_refl _, hM⟩
    · rename_i h0
      have hs := srt_len (goodL v g v.length)
      have hm := goodL_mem v.length (Nat.le_refl _) _ ((srt_perm _).mem_iff.1 (getD_mem (l := srt (goodL v g v.length)) (i := ((goodL v g v.length).length - 1) / 2) (by omega)))
      obtain ⟨i, hi, e⟩ := List.getElem_of_mem hm
      have := h i hi
      rw [List.getD_eq_getElem?_getD, List.getElem?_eq_getElem hi] at this
      dsimp only
      rw [← e]; exact this
def eVs (V : List Int) : List PV := [.sl 0 1 V.length (fl eInt V)]

set_option maxRecDepth 100000 in
set_option maxHeartbeats 16000000 in
theorem call29 (σ : Nat) (C : List Ck) (G : List (List Rd)) (most : Int) (hC : C.length ≤ 1000) (hl : G.length ≤ 1000) (hG : ∀ i, i < G.length → (G.getD i default).length ≤ 8796093022208) :
    PureCall Try.prog 29 [.sl 2 4 C.length (fl eCk C), .sl 2 1 G.length (fl (eLs σ) G), .int .i64 most] []
      ⟨.tup [.sl 0 1 (combF C G most).1.length (fl eInt (combF C G most).1), .sl 0 1 (combF C G most).2.1.length (fl eBool (combF C G most).2.1), .sl 0 1 (combF C G most).2.2.1.length (fl eInt (combF C G most).2.2.1), .int .i64 (combF C G most).2.2.2], [], []⟩ := by
  refine pure_call mix Try.func29 fits29 rfl ?_
  conv => whnf
  by_cases hlen : C.length = G.length
  rotate_left
  · rw [show ((C.length : Int) != (G.length : Int)) = true by simp; omega]
    rw [show combF C G most = ([], [], [], 3) by unfold combF; rw [if_pos (by omega)]]
    refine ⟨⟨.bool false, [.box [.sl 2 1 G.length (fl (eLs σ) G)]], []⟩, fun h => absurd h (by decide), ?_⟩
    conv => whnf
    refine ⟨?_, fun _ => ?_, fun hc => absurd hc (by decide)⟩
    · (try conv => whnf)
      (repeat' (first | exact True.intro | exact fun _ h => h | refine inR64_of ?_ ?_ | apply And.intro | refine maxLen_ge ?_)) <;> (first | omega | (dsimp only; omega) | (dsimp only [List.length_cons, List.length_nil]; omega) | (intro hg; rw [hg]; rfl) | (intro hg hh; rw [hg, hh]; rfl) | (intro hg; simp [-List.getD_eq_getElem?_getD, -Int.default_eq_zero] at hg; first | omega | (refine inR64_of ?_ ?_ <;> omega) | (constructor <;> omega)) | (simp [-List.getD_eq_getElem?_getD, -Int.default_eq_zero]; done))
    conv => whnf
    refine ⟨?_, [], ?_⟩
    · (try conv => whnf)
      (repeat' (first | exact True.intro | exact fun _ h => h | refine inR64_of ?_ ?_ | apply And.intro | refine maxLen_ge ?_)) <;> (first | omega | (dsimp only; omega) | (dsimp only [List.length_cons, List.length_nil]; omega) | (intro hg; rw [hg]; rfl) | (intro hg hh; rw [hg, hh]; rfl) | (intro hg; simp [-List.getD_eq_getElem?_getD, -Int.default_eq_zero] at hg; first | omega | (refine inR64_of ?_ ?_ <;> omega) | (constructor <;> omega)) | (simp [-List.getD_eq_getElem?_getD, -Int.default_eq_zero]; done))
    conv => whnf
    refine ⟨rfl, ?_, trivial, trivial⟩
    all_goals repeat' (first | exact True.intro | refine leF_cons rfl ?_ ?_ | refine leS_cons rfl ?_ ?_ | (show PLe _ _ _ _; conv => whnf) | (show SLe _ _ _ _; conv => whnf) | (show PLeL _ _ _ _; conv => whnf) | apply And.intro | rfl | exact Nat.le_refl _ | exact fun _ _ => rfl | exact rowEq0 _ _)
  rw [show ((C.length : Int) != (G.length : Int)) = false by simp; omega]
  refine ⟨_, fun _ => call46 σ G (by omega), ?_⟩
  conv => whnf
  refine ⟨?_, fun hc => ?_, fun hc => ?_⟩
  · (try conv => whnf)
    (repeat' (first | exact True.intro | exact fun _ h => h | refine inR64_of ?_ ?_ | apply And.intro | refine maxLen_ge ?_)) <;> (first | omega | (dsimp only; omega) | (dsimp only [List.length_cons, List.length_nil]; omega) | (intro hg; rw [hg]; rfl) | (intro hg hh; rw [hg, hh]; rfl) | (intro hg; simp [-List.getD_eq_getElem?_getD, -Int.default_eq_zero] at hg; first | omega | (refine inR64_of ?_ ?_ <;> omega) | (constructor <;> omega)) | (simp [-List.getD_eq_getElem?_getD, -Int.default_eq_zero]; done))
  · simp only [bif_t, bif_f, decide_eq_true_eq, decide_eq_false_iff_not, Bool.not_eq_true', Bool.not_eq_false', Bool.and_eq_true, Bool.or_eq_true, Bool.and_eq_false_iff, Bool.or_eq_false_iff, beq_iff_eq, bne_iff_ne, beq_eq_false_iff_ne, bne_eq_false_iff_eq, reduceCtorEq, false_and, and_false, true_and, and_true, or_false, false_or, or_true, true_or, not_true_eq_false, not_false_eq_true, Int.toNat_zero] at hc
    rw [show combF C G most = ([], [], [], 3) by unfold combF; rw [if_pos (by omega)]]
    conv => whnf
    refine ⟨?_, [], ?_⟩
    · (try conv => whnf)
      (repeat' (first | exact True.intro | exact fun _ h => h | refine inR64_of ?_ ?_ | apply And.intro | refine maxLen_ge ?_)) <;> (first | omega | (dsimp only; omega) | (dsimp only [List.length_cons, List.length_nil]; omega) | (intro hg; rw [hg]; rfl) | (intro hg hh; rw [hg, hh]; rfl) | (intro hg; simp [-List.getD_eq_getElem?_getD, -Int.default_eq_zero] at hg; first | omega | (refine inR64_of ?_ ?_ <;> omega) | (constructor <;> omega)) | (simp [-List.getD_eq_getElem?_getD, -Int.default_eq_zero]; done))
    conv => whnf
    refine ⟨rfl, ?_, trivial, trivial⟩
    all_goals repeat' (first | exact True.intro | refine leF_cons rfl ?_ ?_ | refine leS_cons rfl ?_ ?_ | (show PLe _ _ _ _; conv => whnf) | (show SLe _ _ _ _; conv => whnf) | (show PLeL _ _ _ _; conv => whnf) | apply And.intro | rfl | exact Nat.le_refl _ | exact fun _ _ => rfl | exact rowEq0 _ _)
  simp only [bif_t, bif_f, decide_eq_true_eq, decide_eq_false_iff_not, Bool.not_eq_true', Bool.not_eq_false', Bool.and_eq_true, Bool.or_eq_true, Bool.and_eq_false_iff, Bool.or_eq_false_iff, beq_iff_eq, bne_iff_ne, beq_eq_false_iff_ne, bne_eq_false_iff_eq, reduceCtorEq, false_and, and_false, true_and, and_true, or_false, false_or, or_true, true_or, not_true_eq_false, not_false_eq_true, Int.toNat_zero] at hc
  have hsame : ∀ i, i < G.length → (G.getD i default).length = (G.getD 0 default).length := fun i hi => by
    have := ixG_neg.1 (show ixG (lenP G) G 0 G.length < 0 by omega) i (by omega) (by omega)
    unfold lenP at this
    have := of_decide_eq_false this
    omega
  have hf1 : combF C G most = if most < 0 then ([], [], [], 1)
      else if scan (vE C G) 0 G.length ≠ 0 then ([], [], [], scan (vE C G) 0 G.length)
      else ((combT G (vL C G G.length) most G.length (stepsF G G.length).toNat).1, (combT G (vL C G G.length) most G.length (stepsF G G.length).toNat).2.1, (combT G (vL C G G.length) most G.length (stepsF G G.length).toNat).2.2, 0) := by
    unfold combF; rw [if_neg (by omega)]
  rw [hf1]
  clear hf1 hc
  conv => whnf
  refine ⟨trivial, fun hc => ?_, fun hc => ?_⟩
  · replace hc := of_decide_eq_true hc
    rw [if_pos hc]
    conv => whnf
    refine ⟨?_, [], ?_⟩
    · (try conv => whnf)
      (repeat' (first | exact True.intro | exact fun _ h => h | refine inR64_of ?_ ?_ | apply And.intro | refine maxLen_ge ?_)) <;> (first | omega | (dsimp only; omega) | (dsimp only [List.length_cons, List.length_nil]; omega) | (intro hg; rw [hg]; rfl) | (intro hg hh; rw [hg, hh]; rfl) | (intro hg; simp [-List.getD_eq_getElem?_getD, -Int.default_eq_zero] at hg; first | omega | (refine inR64_of ?_ ?_ <;> omega) | (constructor <;> omega)) | (simp [-List.getD_eq_getElem?_getD, -Int.default_eq_zero]; done))
    conv => whnf
    refine ⟨rfl, ?_, trivial, trivial⟩
    all_goals repeat' (first | exact True.intro | refine leF_cons rfl ?_ ?_ | refine leS_cons rfl ?_ ?_ | (show PLe _ _ _ _; conv => whnf) | (show SLe _ _ _ _; conv => whnf) | (show PLeL _ _ _ _; conv => whnf) | apply And.intro | rfl | exact Nat.le_refl _ | exact fun _ _ => rfl | exact rowEq0 _ _)
  replace hc := of_decide_eq_false hc
  rw [if_neg hc]
  have hmost : 0 ≤ most := by
    have h : ¬ most < 0 := hc
    omega
  clear hc
  conv => whnf
  refine ⟨trivial, ?_⟩
  refine LSem.adopt 11 1000000 22 1 1 rfl rfl ?_
  refine LSem.loop (n := 145) mix (α := Nat) (fun i => i ≤ G.length ∧ scan (vE C G) i (G.length - i) = scan (vE C G) 0 G.length ∧ ∀ j, j < i → vE C G j = 0)
    (fun i => [(0, .sl 2 4 C.length (fl eCk C)), (2, .int .i64 most), (4, .pt 64 0 0), (10, .int .i64 (stepsF G i)), (11, .os 1000000), (41, .sl 2 1 G.length (fl (eLs σ) G)), (42, .int .i64 G.length), (43, .int .i64 i)])
    (fun i => [(64, .box [.sl 2 1 G.length (fl (eLs σ) G)]), (1000000, .row 0 22 1 i (fl eVs (vL C G i)))]) (fun i => G.length - i) 0 ?_ ?_ ?_
  · exact ⟨Nat.zero_le _, rfl, fun j hj => by omega⟩
  · refine ⟨rfl, rfl, ?_, ?_⟩
    all_goals repeat' (first | exact True.intro | refine leF_cons rfl ?_ ?_ | refine leS_cons rfl ?_ ?_ | (show PLe _ _ _ _; conv => whnf) | (show SLe _ _ _ _; conv => whnf) | (show PLeL _ _ _ _; conv => whnf) | apply And.intro | rfl | exact Nat.le_refl _ | exact fun _ _ => rfl | exact rowEq0 _ _)
  · intro i hi
    obtain ⟨hi, hs, hall⟩ := hi
    have hj : ((i : Int)).toNat = i := by omega
    conv => whnf
    refine ⟨trivial, fun hc => ?_, fun hc => ?_⟩
    · replace hc := of_decide_eq_true hc
      have hlt : i < G.length := by omega
      have hgi := hG i hlt
      conv => whnf
      refine ⟨_, fun _ => call25 (C.getD ((i : Int)).toNat default) (G.getD ((i : Int)).toNat default) (by rw [hj]; exact hgi), ?_⟩
      rw [hj]
      have hE : vE C G i = (verdictsF (C.getD i default) (G.getD i default)).2 := rfl
      have hps := fl_push eVs (vL C G i) (verdictsF (C.getD i default) (G.getD i default)).1
      rw [vL_len, show vL C G i ++ [(verdictsF (C.getD i default) (G.getD i default)).1] = vL C G (i + 1) from rfl] at hps
      generalize verdictsF (C.getD i default) (G.getD i default) = V at hE hps ⊢
      conv => whnf
      refine ⟨?_, fun hc1 => ?_, fun hc1 => ?_⟩
      · (try conv => whnf)
        (repeat' (first | exact True.intro | exact fun _ h => h | refine inR64_of ?_ ?_ | apply And.intro | refine maxLen_ge ?_)) <;> (first | omega | (dsimp only; omega) | (dsimp only [List.length_cons, List.length_nil]; omega) | (intro hg; rw [hg]; rfl) | (intro hg hh; rw [hg, hh]; rfl) | (intro hg; simp [-List.getD_eq_getElem?_getD, -Int.default_eq_zero] at hg; first | omega | (refine inR64_of ?_ ?_ <;> omega) | (constructor <;> omega)) | (simp [-List.getD_eq_getElem?_getD, -Int.default_eq_zero]; done))
      · simp only [bif_t, bif_f, decide_eq_true_eq, decide_eq_false_iff_not, Bool.not_eq_true', Bool.not_eq_false', Bool.and_eq_true, Bool.or_eq_true, Bool.and_eq_false_iff, Bool.or_eq_false_iff, beq_iff_eq, bne_iff_ne, beq_eq_false_iff_ne, bne_eq_false_iff_eq, reduceCtorEq, false_and, and_false, true_and, and_true, or_false, false_or, or_true, true_or, not_true_eq_false, not_false_eq_true, Int.toNat_zero] at hc1
        have hh : scan (vE C G) 0 G.length = V.2 := by rw [← hs, ← hE]; exact scan_hit (show 0 < G.length - i by omega) (by rw [hE]; exact hc1)
        rw [hh, if_pos hc1]
        conv => whnf
        refine ⟨?_, [], ?_⟩
        · (try conv => whnf)
          (repeat' (first | exact True.intro | exact fun _ h => h | refine inR64_of ?_ ?_ | apply And.intro | refine maxLen_ge ?_)) <;> (first | omega | (dsimp only; omega) | (dsimp only [List.length_cons, List.length_nil]; omega) | (intro hg; rw [hg]; rfl) | (intro hg hh; rw [hg, hh]; rfl) | (intro hg; simp [-List.getD_eq_getElem?_getD, -Int.default_eq_zero] at hg; first | omega | (refine inR64_of ?_ ?_ <;> omega) | (constructor <;> omega)) | (simp [-List.getD_eq_getElem?_getD, -Int.default_eq_zero]; done))
        conv => whnf
        refine ⟨rfl, ?_, trivial, trivial⟩
        all_goals repeat' (first | exact True.intro | refine leF_cons rfl ?_ ?_ | refine leS_cons rfl ?_ ?_ | (show PLe _ _ _ _; conv => whnf) | (show SLe _ _ _ _; conv => whnf) | (show PLeL _ _ _ _; conv => whnf) | apply And.intro | rfl | exact Nat.le_refl _ | exact fun _ _ => rfl | exact rowEq0 _ _)
      · simp only [bif_t, bif_f, decide_eq_true_eq, decide_eq_false_iff_not, Bool.not_eq_true', Bool.not_eq_false', Bool.and_eq_true, Bool.or_eq_true, Bool.and_eq_false_iff, Bool.or_eq_false_iff, beq_iff_eq, bne_iff_ne, beq_eq_false_iff_ne, bne_eq_false_iff_eq, reduceCtorEq, false_and, and_false, true_and, and_true, or_false, false_or, or_true, true_or, not_true_eq_false, not_false_eq_true, Int.toNat_zero] at hc1
        have hE0 : vE C G i = 0 := by rw [hE]; omega
        have hh : scan (vE C G) (i + 1) (G.length - (i + 1)) = scan (vE C G) 0 G.length := by rw [← hs, scan_step (show 0 < G.length - i by omega) hE0]; congr 1
        have hst : stepsF G (i + 1) = (G.getD i default).length := by unfold stepsF; rw [if_neg (by omega), Nat.add_sub_cancel]
        conv => whnf
        refine ⟨?_, i + 1, ⟨by omega, hh, fun j hj2 => ?_⟩, ?_, rfl, rfl, ?_, ?_⟩
        · (try conv => whnf)
          (repeat' (first | exact True.intro | exact fun _ h => h | refine inR64_of ?_ ?_ | apply And.intro | refine maxLen_ge ?_)) <;> (first | omega | (dsimp only; omega) | (dsimp only [List.length_cons, List.length_nil]; omega) | (intro hg; rw [hg]; rfl) | (intro hg hh; rw [hg, hh]; rfl) | (intro hg; simp [-List.getD_eq_getElem?_getD, -Int.default_eq_zero] at hg; first | omega | (refine inR64_of ?_ ?_ <;> omega) | (constructor <;> omega)) | (simp [-List.getD_eq_getElem?_getD, -Int.default_eq_zero]; done))
        · by_cases e : j = i
          · rw [e]; exact hE0
          · exact hall j (by omega)
        · omega
        all_goals repeat' (first | exact True.intro | refine leF_cons rfl ?_ ?_ | refine leS_cons rfl ?_ ?_ | (show PLe _ _ _ _; conv => whnf) | (show SLe _ _ _ _; conv => whnf) | (show PLeL _ _ _ _; conv => whnf) | apply And.intro | rfl | exact Nat.le_refl _ | exact fun _ _ => rfl | exact rowEq0 _ _)
        all_goals first | omega | (rw [hst, hj]; done) | exact hps | skip
    · replace hc := of_decide_eq_false hc
      have : i = G.length := by omega
      subst this
      have hz : scan (vE C G) 0 G.length = 0 := by rw [← hs, Nat.sub_self]; rfl
      rw [if_neg (by rw [hz]; simp)]
      clear hs hz hc
      have hst : ∃ m : Nat, stepsF G G.length = m ∧ ∀ i, i < G.length → (G.getD i default).length = m := by
        by_cases e : G.length = 0
        · exact ⟨0, by unfold stepsF; rw [if_pos e]; rfl, fun i hi => by omega⟩
        · exact ⟨(G.getD (G.length - 1) default).length, by unfold stepsF; rw [if_neg e], fun i hi => by rw [hsame i hi, hsame (G.length - 1) (by omega)]⟩
      obtain ⟨m, hm, hml⟩ := hst
      rw [hm, Int.toNat_natCast]
      have hvl : ∀ i, i < G.length → ((vL C G G.length).getD i default).length = m := fun i hi => by
        rw [vL_get C G _ i hi, verdicts_len (hall i hi)]; exact hml i hi
      have hvl0 := vL_len C G G.length
      have hrd : ∀ i t, i < G.length → t < m → 0 ≤ ((G.getD i default).getD t default).v ∧ ((G.getD i default).getD t default).v ≤ 1073741824 := fun i t hi ht => verdicts_rd (hall i hi) t (by rw [hml i hi]; exact ht)
      have hmb : m ≤ 8796093022208 ∨ G.length = 0 := by
        by_cases e : G.length = 0
        · exact .inr e
        · left; have := hG 0 (by omega); have := hml 0 (by omega); omega
      have hmb2 : m ≤ 8796093022208 := by
        rcases hmb with h | h
        · exact h
        · unfold stepsF at hm; rw [if_pos h] at hm; omega
      generalize vL C G G.length = VL at hvl hvl0 ⊢
      clear hall hsame hG hmb hm
      have hvT := fun t => show combT G VL most G.length (t + 1) = ((combT G VL most G.length t).1 ++ [(voteT G VL G.length t).1], (combT G VL most G.length t).2.1 ++ [(voteT G VL G.length t).2], (combT G VL most G.length t).2.2 ++ [(oddN (seenL G t G.length) (goodV VL t G.length) (voteT G VL G.length t).1 most G.length : Int)]) from rfl
      have hcl := combT_len G VL most G.length
      conv => whnf
      refine ⟨trivial, ?_⟩
      refine LSem.adopt 16 1000001 3 1 1 rfl rfl ?_
      refine LSem.adopt 17 1000002 3 1 1 rfl rfl ?_
      refine LSem.adopt 18 1000003 4 1 1 rfl rfl ?_
      refine LSem.loop (n := 145) mix (α := Nat) (fun t => t ≤ m)
        (fun t => [(2, .int .i64 most), (4, .pt 64 0 0), (11, .os 1000000), (16, .os 1000001), (17, .os 1000002), (18, .os 1000003), (67, .int .i64 m), (68, .int .i64 t)])
        (fun t => [(64, .box [.sl 2 1 G.length (fl (eLs σ) G)]), (1000000, .row 0 22 1 G.length (fl eVs VL)), (1000001, .row 0 3 1 (combT G VL most G.length t).1.length (fl eInt (combT G VL most G.length t).1)), (1000002, .row 0 3 1 (combT G VL most G.length t).2.2.length (fl eInt (combT G VL most G.length t).2.2)), (1000003, .row 0 4 1 (combT G VL most G.length t).2.1.length (fl eBool (combT G VL most G.length t).2.1))]) (fun t => m - t) 0 ?_ ?_ ?_
      · exact Nat.zero_le _
      · refine ⟨rfl, rfl, ?_, ?_⟩
        all_goals repeat' (first | exact True.intro | refine leF_cons rfl ?_ ?_ | refine leS_cons rfl ?_ ?_ | (show PLe _ _ _ _; conv => whnf) | (show SLe _ _ _ _; conv => whnf) | (show PLeL _ _ _ _; conv => whnf) | apply And.intro | rfl | exact Nat.le_refl _ | exact fun _ _ => rfl | exact rowEq0 _ _)
      · intro t ht
        have hjt : ((t : Int)).toNat = t := by omega
        conv => whnf
        refine ⟨trivial, fun hc => ?_, fun hc => ?_⟩
        · replace hc := of_decide_eq_true hc
          have hlt : t < m := by omega
          replace hvT := hvT t
          obtain ⟨k1, k2, k3⟩ := hcl t
          clear hcl
          conv => whnf
          refine ⟨trivial, ?_⟩
          refine LSem.adopt 20 1000004 3 1 1 rfl rfl ?_
          refine LSem.adopt 21 1000005 4 1 1 rfl rfl ?_
          refine LSem.loop (n := 145) mix (α := Nat) (fun i => i ≤ G.length)
            (fun i => [(2, .int .i64 most), (4, .pt 64 0 0), (11, .os 1000000), (16, .os 1000001), (17, .os 1000002), (18, .os 1000003), (19, .int .i64 t), (20, .os 1000004), (21, .os 1000005), (67, .int .i64 m), (68, .int .i64 t), (71, .sl 2 1 G.length (fl (eLs σ) G)), (72, .int .i64 G.length), (73, .int .i64 i)])
            (fun i => [(64, .box [.sl 2 1 G.length (fl (eLs σ) G)]), (1000000, .row 0 22 1 G.length (fl eVs VL)), (1000001, .row 0 3 1 (combT G VL most G.length t).1.length (fl eInt (combT G VL most G.length t).1)), (1000002, .row 0 3 1 (combT G VL most G.length t).2.2.length (fl eInt (combT G VL most G.length t).2.2)), (1000003, .row 0 4 1 (combT G VL most G.length t).2.1.length (fl eBool (combT G VL most G.length t).2.1)), (1000004, .row 0 3 1 (seenL G t i).length (fl eInt (seenL G t i))), (1000005, .row 0 4 1 (goodV VL t i).length (fl eBool (goodV VL t i)))]) (fun i => G.length - i) 0 ?_ ?_ ?_
          · exact Nat.zero_le _
          · refine ⟨rfl, rfl, ?_, ?_⟩
            all_goals repeat' (first | exact True.intro | refine leF_cons rfl ?_ ?_ | refine leS_cons rfl ?_ ?_ | (show PLe _ _ _ _; conv => whnf) | (show SLe _ _ _ _; conv => whnf) | (show PLeL _ _ _ _; conv => whnf) | apply And.intro | rfl | exact Nat.le_refl _ | exact fun _ _ => rfl | exact rowEq0 _ _)
          · intro i hi
            have hji : ((i : Int)).toNat = i := by omega
            conv => whnf
            refine ⟨trivial, fun hc2 => ?_, fun hc2 => ?_⟩
            · replace hc2 := of_decide_eq_true hc2
              have hli : i < G.length := by omega
              have hlm := hml i hli
              have hvm := hvl i hli
              have z1 := seenL_len G t i
              have z2 := goodV_len VL t i
              have z3 := seenL_len G t (i + 1)
              have z4 := goodV_len VL t (i + 1)
              have q1 := fl_push eInt (seenL G t i) ((G.getD i default).getD t default).v
              rw [show seenL G t i ++ [((G.getD i default).getD t default).v] = seenL G t (i + 1) from rfl] at q1
              have q2 := fl_push eBool (goodV VL t i) ((VL.getD i default).getD t default == 1)
              rw [show goodV VL t i ++ [((VL.getD i default).getD t default == 1)] = goodV VL t (i + 1) from rfl] at q2
              conv => whnf
              refine ⟨rfl, ?_⟩
              conv => whnf
              refine ⟨?_, i + 1, (by omega : i + 1 ≤ G.length), ?_, rfl, rfl, ?_, ?_⟩
              · rw [hji, hjt]
                (try conv => whnf)
                (repeat' (first | exact True.intro | exact fun _ h => h | refine inR64_of ?_ ?_ | apply And.intro | refine maxLen_ge ?_)) <;> (first | omega | (dsimp only; omega) | (dsimp only [List.length_cons, List.length_nil]; omega) | (intro hg; rw [hg]; rfl) | (intro hg hh; rw [hg, hh]; rfl) | (intro hg; simp [-List.getD_eq_getElem?_getD, -Int.default_eq_zero] at hg; first | omega | (refine inR64_of ?_ ?_ <;> omega) | (constructor <;> omega)) | (simp [-List.getD_eq_getElem?_getD, -Int.default_eq_zero]; done))
              · omega
              all_goals repeat' (first | exact True.intro | refine leF_cons rfl ?_ ?_ | refine leS_cons rfl ?_ ?_ | (show PLe _ _ _ _; conv => whnf) | (show SLe _ _ _ _; conv => whnf) | (show PLeL _ _ _ _; conv => whnf) | apply And.intro | rfl | exact Nat.le_refl _ | exact fun _ _ => rfl | exact rowEq0 _ _)
              all_goals (try rw [hji, hjt])
              all_goals first | omega | exact q1 | exact q2 | (simp only [List.length_cons, List.length_nil]; omega)
            · replace hc2 := of_decide_eq_false hc2
              have : i = G.length := by omega
              subst this
              have z1 := seenL_len G t G.length
              have z2 := goodV_len VL t G.length
              have hsg : ∀ i, i < (seenL G t G.length).length → 0 ≤ (seenL G t G.length).getD i default ∧ (seenL G t G.length).getD i default ≤ 1073741824 := fun i hi => by
                rw [seen_get G t G.length i (by omega)]; exact hrd i t (by omega) hlt
              unfold voteT at hvT
              generalize hSd : seenL G t G.length = S at z1 hsg hvT ⊢
              generalize goodV VL t G.length = B at z2 hvT ⊢
              have hvr := vote_rng (v := S) (g := B) (M := 1073741824) (by decide) hsg
              conv => whnf
              refine ⟨_, fun _ => call13 _ _ S B (by omega), ?_⟩
              generalize voteF S B = P at hvr hvT ⊢
              obtain ⟨v, ok⟩ := P
              dsimp only at hvr hvT
              conv => whnf
              refine ⟨?_, ?_⟩
              · (try conv => whnf)
                (repeat' (first | exact True.intro | exact fun _ h => h | refine inR64_of ?_ ?_ | apply And.intro | refine maxLen_ge ?_)) <;> (first | omega | (dsimp only; omega) | (dsimp only [List.length_cons, List.length_nil]; omega) | (intro hg; rw [hg]; rfl) | (intro hg hh; rw [hg, hh]; rfl) | (intro hg; simp [-List.getD_eq_getElem?_getD, -Int.default_eq_zero] at hg; first | omega | (refine inR64_of ?_ ?_ <;> omega) | (constructor <;> omega)) | (simp [-List.getD_eq_getElem?_getD, -Int.default_eq_zero]; done))
              refine LSem.loop (n := 145) mix (α := Nat) (fun i => i ≤ S.length)
                (fun i => [(2, .int .i64 most), (4, .pt 64 0 0), (11, .os 1000000), (16, .os 1000001), (17, .os 1000002), (18, .os 1000003), (21, .os 1000005), (24, .int .i64 v), (25, .bool ok), (26, .int .i64 (oddN S B v most i)), (67, .int .i64 m), (68, .int .i64 t), (104, .os 1000004), (105, .int .i64 S.length), (106, .int .i64 i)])
                (fun i => [(64, .box [.sl 2 1 G.length (fl (eLs σ) G)]), (1000000, .row 0 22 1 G.length (fl eVs VL)), (1000001, .row 0 3 1 (combT G VL most G.length t).1.length (fl eInt (combT G VL most G.length t).1)), (1000002, .row 0 3 1 (combT G VL most G.length t).2.2.length (fl eInt (combT G VL most G.length t).2.2)), (1000003, .row 0 4 1 (combT G VL most G.length t).2.1.length (fl eBool (combT G VL most G.length t).2.1)), (1000004, .row 0 3 1 S.length (fl eInt S)), (1000005, .row 0 4 1 B.length (fl eBool B))]) (fun i => S.length - i) 0 ?_ ?_ ?_
              · exact Nat.zero_le _
              · refine ⟨rfl, rfl, ?_, ?_⟩
                all_goals repeat' (first | exact True.intro | refine leF_cons rfl ?_ ?_ | refine leS_cons rfl ?_ ?_ | (show PLe _ _ _ _; conv => whnf) | (show SLe _ _ _ _; conv => whnf) | (show PLeL _ _ _ _; conv => whnf) | apply And.intro | rfl | exact Nat.le_refl _ | exact fun _ _ => rfl | exact rowEq0 _ _)
              · intro i hi
                have hji : ((i : Int)).toNat = i := by omega
                have hod := oddN_le S B v most i
                conv => whnf
                refine ⟨trivial, fun hc3 => ?_, fun hc3 => ?_⟩
                · replace hc3 := of_decide_eq_true hc3
                  have hli : i < S.length := by omega
                  have hsi := hsg i hli
                  conv => whnf
                  refine ⟨?_, fun hc4 => ?_, fun hc4 => ?_⟩
                  · rw [hji]
                    (try conv => whnf)
                    (repeat' (first | exact True.intro | exact fun _ h => h | refine inR64_of ?_ ?_ | apply And.intro | refine maxLen_ge ?_)) <;> (first | omega | (dsimp only; omega) | (dsimp only [List.length_cons, List.length_nil]; omega) | (intro hg; rw [hg]; rfl) | (intro hg hh; rw [hg, hh]; rfl) | (intro hg; simp [-List.getD_eq_getElem?_getD, -Int.default_eq_zero] at hg; first | omega | (refine inR64_of ?_ ?_ <;> omega) | (constructor <;> omega)) | (simp [-List.getD_eq_getElem?_getD, -Int.default_eq_zero]; done))
                  · rw [hji] at hc4
                    have hst : oddN S B v most (i + 1) = oddN S B v most i + 1 := by
                      rw [oddN, if_pos]
                      cases hb : B.getD i default with
                      | false => rw [hb] at hc4; cases hc4
                      | true => rw [hb] at hc4; exact ⟨rfl, of_decide_eq_true hc4⟩
                    conv => whnf
                    refine ⟨?_, i + 1, (by omega : i + 1 ≤ S.length), ?_, rfl, rfl, ?_, ?_⟩
                    · (try conv => whnf)
                      (repeat' (first | exact True.intro | exact fun _ h => h | refine inR64_of ?_ ?_ | apply And.intro | refine maxLen_ge ?_)) <;> (first | omega | (dsimp only; omega) | (dsimp only [List.length_cons, List.length_nil]; omega) | (intro hg; rw [hg]; rfl) | (intro hg hh; rw [hg, hh]; rfl) | (intro hg; simp [-List.getD_eq_getElem?_getD, -Int.default_eq_zero] at hg; first | omega | (refine inR64_of ?_ ?_ <;> omega) | (constructor <;> omega)) | (simp [-List.getD_eq_getElem?_getD, -Int.default_eq_zero]; done))
                    · omega
                    all_goals repeat' (first | exact True.intro | refine leF_cons rfl ?_ ?_ | refine leS_cons rfl ?_ ?_ | (show PLe _ _ _ _; conv => whnf) | (show SLe _ _ _ _; conv => whnf) | (show PLeL _ _ _ _; conv => whnf) | apply And.intro | rfl | exact Nat.le_refl _ | exact fun _ _ => rfl | exact rowEq0 _ _)
                    all_goals (try rw [hst])
                    all_goals first | omega | skip
                  · rw [hji] at hc4
                    have hst : oddN S B v most (i + 1) = oddN S B v most i := by
                      rw [oddN, if_neg]
                      rintro ⟨h1, h2⟩
                      rw [h1] at hc4
                      exact (of_decide_eq_false hc4) h2
                    conv => whnf
                    refine ⟨?_, i + 1, (by omega : i + 1 ≤ S.length), ?_, rfl, rfl, ?_, ?_⟩
                    · (try conv => whnf)
                      (repeat' (first | exact True.intro | exact fun _ h => h | refine inR64_of ?_ ?_ | apply And.intro | refine maxLen_ge ?_)) <;> (first | omega | (dsimp only; omega) | (dsimp only [List.length_cons, List.length_nil]; omega) | (intro hg; rw [hg]; rfl) | (intro hg hh; rw [hg, hh]; rfl) | (intro hg; simp [-List.getD_eq_getElem?_getD, -Int.default_eq_zero] at hg; first | omega | (refine inR64_of ?_ ?_ <;> omega) | (constructor <;> omega)) | (simp [-List.getD_eq_getElem?_getD, -Int.default_eq_zero]; done))
                    · omega
                    all_goals repeat' (first | exact True.intro | refine leF_cons rfl ?_ ?_ | refine leS_cons rfl ?_ ?_ | (show PLe _ _ _ _; conv => whnf) | (show SLe _ _ _ _; conv => whnf) | (show PLeL _ _ _ _; conv => whnf) | apply And.intro | rfl | exact Nat.le_refl _ | exact fun _ _ => rfl | exact rowEq0 _ _)
                    all_goals (try rw [hst])
                    all_goals first | omega | skip
                · replace hc3 := of_decide_eq_false hc3
                  have : i = S.length := by omega
                  subst this
                  rw [z1] at hod
                  rw [show oddN S B v most S.length = oddN S B v most G.length by rw [z1]]
                  generalize oddN S B v most G.length = od at hvT hod ⊢
                  have q3 := fl_push eInt (combT G VL most G.length t).1 v
                  have q4 := fl_push eBool (combT G VL most G.length t).2.1 ok
                  have q5 := fl_push eInt (combT G VL most G.length t).2.2 (od : Int)
                  conv => whnf
                  refine ⟨?_, t + 1, (by omega : t + 1 ≤ m), ?_, rfl, rfl, ?_, ?_⟩
                  · (try conv => whnf)
                    (repeat' (first | exact True.intro | exact fun _ h => h | refine inR64_of ?_ ?_ | apply And.intro | refine maxLen_ge ?_)) <;> (first | omega | (dsimp only; omega) | (dsimp only [List.length_cons, List.length_nil]; omega) | (intro hg; rw [hg]; rfl) | (intro hg hh; rw [hg, hh]; rfl) | (intro hg; simp [-List.getD_eq_getElem?_getD, -Int.default_eq_zero] at hg; first | omega | (refine inR64_of ?_ ?_ <;> omega) | (constructor <;> omega)) | (simp [-List.getD_eq_getElem?_getD, -Int.default_eq_zero]; done))
                  · omega
                  all_goals repeat' (first | exact True.intro | refine leF_cons rfl ?_ ?_ | refine leS_cons rfl ?_ ?_ | (show PLe _ _ _ _; conv => whnf) | (show SLe _ _ _ _; conv => whnf) | (show PLeL _ _ _ _; conv => whnf) | apply And.intro | rfl | exact Nat.le_refl _ | exact fun _ _ => rfl | exact rowEq0 _ _)
                  all_goals (try rw [hvT])
                  all_goals first | omega | exact q3 | exact q4 | exact q5 | (simp only [List.length_append, List.length_cons, List.length_nil]; done) | skip
        · replace hc := of_decide_eq_false hc
          have : t = m := by omega
          subst this
          conv => whnf
          refine ⟨?_, [], ?_⟩
          · (try conv => whnf)
            (repeat' (first | exact True.intro | exact fun _ h => h | refine inR64_of ?_ ?_ | apply And.intro | refine maxLen_ge ?_)) <;> (first | omega | (dsimp only; omega) | (dsimp only [List.length_cons, List.length_nil]; omega) | (intro hg; rw [hg]; rfl) | (intro hg hh; rw [hg, hh]; rfl) | (intro hg; simp [-List.getD_eq_getElem?_getD, -Int.default_eq_zero] at hg; first | omega | (refine inR64_of ?_ ?_ <;> omega) | (constructor <;> omega)) | (simp [-List.getD_eq_getElem?_getD, -Int.default_eq_zero]; done))
          conv => whnf
          refine ⟨rfl, ?_, trivial, trivial⟩
          all_goals repeat' (first | exact True.intro | refine leF_cons rfl ?_ ?_ | refine leS_cons rfl ?_ ?_ | (show PLe _ _ _ _; conv => whnf) | (show SLe _ _ _ _; conv => whnf) | (show PLeL _ _ _ _; conv => whnf) | apply And.intro | rfl | exact Nat.le_refl _ | exact fun _ _ => rfl | exact rowEq0 _ _)
          all_goals skip
end Pv
end Go.Proofs.Ytogoplhikmmggaa
