/- LAW 29, THE WALKS, 4: the reference's check. -/
import Derived.Test.YtiknpkadlckmjaaW3
namespace Go.Proofs.Ytiknpkadlckmjaa
namespace Pv

theorem inF_true {x m : Int} : inF x m = true ↔ 0 ≤ x ∧ x ≤ m := by unfold inF; simp
theorem inF_false {x m : Int} : inF x m = false ↔ ¬ (0 ≤ x ∧ x ≤ m) := by
  rw [← inF_true]; simp

theorem call16 (τ : Nat) (l : List Me) (c : Ck) : PureCall Try.prog 16 [.sl τ 3 l.length (fl eMe l), .agg (eCk c)] [] ⟨.int .i64 (checkF l c), [], []⟩ := by
  refine pure_call mix Try.func16 fits16 rfl ?_
  conv => whnf
  refine ⟨_, fun _ => call32 c.j 274877906944, ?_⟩
  conv => whnf
  refine ⟨?_, fun hc => ?_, fun hc => ?_⟩
  · (try conv => whnf)
    (repeat' (first | exact True.intro | exact fun _ h => h | refine inR64_of ?_ ?_ | apply And.intro | refine maxLen_ge ?_)) <;> (first | omega | (dsimp only; omega) | (dsimp only [List.length_cons, List.length_nil]; omega) | (intro hg; rw [hg]; rfl) | (intro hg hh; rw [hg, hh]; rfl) | (intro hg; simp [-List.getD_eq_getElem?_getD, -Int.default_eq_zero] at hg; first | omega | (refine inR64_of ?_ ?_ <;> omega) | (constructor <;> omega)) | (simp [-List.getD_eq_getElem?_getD, -Int.default_eq_zero]; done))
  · conv => whnf
    refine ⟨?_, [], ?_⟩
    · (try conv => whnf)
      (repeat' (first | exact True.intro | exact fun _ h => h | refine inR64_of ?_ ?_ | apply And.intro | refine maxLen_ge ?_)) <;> (first | omega | (dsimp only; omega) | (dsimp only [List.length_cons, List.length_nil]; omega) | (intro hg; rw [hg]; rfl) | (intro hg hh; rw [hg, hh]; rfl) | (intro hg; simp [-List.getD_eq_getElem?_getD, -Int.default_eq_zero] at hg; first | omega | (refine inR64_of ?_ ?_ <;> omega) | (constructor <;> omega)) | (simp [-List.getD_eq_getElem?_getD, -Int.default_eq_zero]; done))
    conv => whnf
    refine ⟨rfl, ?_, trivial, trivial⟩
    all_goals repeat' (first | exact True.intro | refine leF_cons rfl ?_ ?_ | refine leS_cons rfl ?_ ?_ | (show PLe _ _ _ _; conv => whnf) | (show SLe _ _ _ _; conv => whnf) | (show PLeL _ _ _ _; conv => whnf) | apply And.intro | rfl | exact Nat.le_refl _ | exact fun _ _ => rfl | exact rowEq0 _ _)
    simp [-List.getD_eq_getElem?_getD, -Int.default_eq_zero] at hc
    have hl : limitsF c = 1 := by
      unfold limitsF
      rw [if_pos]
      rcases hc with hc | hc
      · omega
      · rw [inF_false] at hc; omega
    unfold checkF; rw [hl]; rfl
  · have hlim : limitsF c = 0 := by
      simp [-List.getD_eq_getElem?_getD, -Int.default_eq_zero] at hc
      obtain ⟨h1, h2⟩ := hc
      rw [inF_true] at h2
      unfold limitsF; rw [if_neg (by omega)]
    conv => whnf
    refine ⟨trivial, fun hc => ?_, fun hc => ?_⟩
    · conv => whnf
      refine ⟨?_, [], ?_⟩
      · (try conv => whnf)
        (repeat' (first | exact True.intro | exact fun _ h => h | refine inR64_of ?_ ?_ | apply And.intro | refine maxLen_ge ?_)) <;> (first | omega | (dsimp only; omega) | (dsimp only [List.length_cons, List.length_nil]; omega) | (intro hg; rw [hg]; rfl) | (intro hg hh; rw [hg, hh]; rfl) | (intro hg; simp [-List.getD_eq_getElem?_getD, -Int.default_eq_zero] at hg; first | omega | (refine inR64_of ?_ ?_ <;> omega) | (constructor <;> omega)) | (simp [-List.getD_eq_getElem?_getD, -Int.default_eq_zero]; done))
      conv => whnf
      refine ⟨rfl, ?_, trivial, trivial⟩
      all_goals repeat' (first | exact True.intro | refine leF_cons rfl ?_ ?_ | refine leS_cons rfl ?_ ?_ | (show PLe _ _ _ _; conv => whnf) | (show SLe _ _ _ _; conv => whnf) | (show PLeL _ _ _ _; conv => whnf) | apply And.intro | rfl | exact Nat.le_refl _ | exact fun _ _ => rfl | exact rowEq0 _ _)
      simp [-List.getD_eq_getElem?_getD, -Int.default_eq_zero] at hc
      unfold checkF; rw [if_neg (by simp [hlim]), if_pos (by omega)]
    · have hlen : l.length ≤ 400 := by simp [-List.getD_eq_getElem?_getD, -Int.default_eq_zero] at hc; omega
      conv => whnf
      refine ⟨trivial, ?_⟩
      refine LSem.loop (n := 86) mix (α := Nat) (fun i => i ≤ l.length ∧ scan (errAt l) 0 l.length = scan (errAt l) i (l.length - i))
        (fun i => [(0, .sl τ 3 l.length (fl eMe l)), (3, .pt 48 0 0), (34, .sl τ 3 l.length (fl eMe l)), (35, .int .i64 l.length), (36, .int .i64 i)])
        (fun i => [(48, .box (eCk c))]) (fun i => l.length - i) 0 ?_ ?_ ?_
      · exact ⟨by omega, rfl⟩
      · refine ⟨rfl, rfl, ?_, ?_⟩
        all_goals repeat' (first | exact True.intro | refine leF_cons rfl ?_ ?_ | refine leS_cons rfl ?_ ?_ | (show PLe _ _ _ _; conv => whnf) | (show SLe _ _ _ _; conv => whnf) | (show PLeL _ _ _ _; conv => whnf) | apply And.intro | rfl | exact Nat.le_refl _ | exact fun _ _ => rfl | exact rowEq0 _ _)
      · intro i hx
        obtain ⟨hi, hsc⟩ := hx
        have hj' : ((i : Int)).toNat = i := by omega
        conv => whnf
        refine ⟨trivial, fun hc => ?_, fun hc => ?_⟩
        · replace hc := dec_iff hc
          simp only [if_true] at hc
          have hlt : i < l.length := by omega
          have hj'' : 0 < i → ((i : Int) - 1).toNat = i - 1 := by omega
          conv => whnf
          refine ⟨_, fun _ => call32 (l.getD ((i : Int)).toNat default).t 16777216, ?_⟩
          conv => whnf
          refine ⟨?_, fun hc1 => ?_, fun hc1 => ?_⟩
          · (try conv => whnf)
            (repeat' (first | exact True.intro | exact fun _ h => h | refine inR64_of ?_ ?_ | apply And.intro | refine maxLen_ge ?_)) <;> (first | omega | (dsimp only; omega) | (dsimp only [List.length_cons, List.length_nil]; omega) | (intro hg; rw [hg]; rfl) | (intro hg hh; rw [hg, hh]; rfl) | (intro hg; simp [-List.getD_eq_getElem?_getD, -Int.default_eq_zero] at hg; first | omega | (refine inR64_of ?_ ?_ <;> omega) | (constructor <;> omega)) | (simp [-List.getD_eq_getElem?_getD, -Int.default_eq_zero]; done))
          · conv => whnf
            refine ⟨?_, [], ?_⟩
            · (try conv => whnf)
              (repeat' (first | exact True.intro | exact fun _ h => h | refine inR64_of ?_ ?_ | apply And.intro | refine maxLen_ge ?_)) <;> (first | omega | (dsimp only; omega) | (dsimp only [List.length_cons, List.length_nil]; omega) | (intro hg; rw [hg]; rfl) | (intro hg hh; rw [hg, hh]; rfl) | (intro hg; simp [-List.getD_eq_getElem?_getD, -Int.default_eq_zero] at hg; first | omega | (refine inR64_of ?_ ?_ <;> omega) | (constructor <;> omega)) | (simp [-List.getD_eq_getElem?_getD, -Int.default_eq_zero]; done))
            conv => whnf
            refine ⟨rfl, ?_, trivial, trivial⟩
            all_goals repeat' (first | exact True.intro | refine leF_cons rfl ?_ ?_ | refine leS_cons rfl ?_ ?_ | (show PLe _ _ _ _; conv => whnf) | (show SLe _ _ _ _; conv => whnf) | (show PLeL _ _ _ _; conv => whnf) | apply And.intro | rfl | exact Nat.le_refl _ | exact fun _ _ => rfl | exact rowEq0 _ _)
            rw [hj'] at hc1
            simp [-List.getD_eq_getElem?_getD, -Int.default_eq_zero] at hc1
            rw [inF_false] at hc1
            exact check_hit hlim hlen hsc hlt (by unfold errAt; rw [if_pos (by omega)]) (by decide)
          · conv => whnf
            refine ⟨rfl, ?_⟩
            conv => whnf
            rw [hj'] at hc1
            simp [-List.getD_eq_getElem?_getD, -Int.default_eq_zero] at hc1
            rw [inF_true] at hc1
            refine ⟨?_, fun hc2 => ?_, fun hc2 => ?_⟩
            · (try conv => whnf)
              (repeat' (first | exact True.intro | exact fun _ h => h | refine inR64_of ?_ ?_ | apply And.intro | refine maxLen_ge ?_)) <;> (first | omega | (dsimp only; omega) | (dsimp only [List.length_cons, List.length_nil]; omega) | (intro hg; rw [hg]; rfl) | (intro hg hh; rw [hg, hh]; rfl) | (intro hg; simp [-List.getD_eq_getElem?_getD, -Int.default_eq_zero] at hg; first | omega | (refine inR64_of ?_ ?_ <;> omega) | (constructor <;> omega)) | (simp [-List.getD_eq_getElem?_getD, -Int.default_eq_zero]; done))
            · conv => whnf
              refine ⟨?_, [], ?_⟩
              · (try conv => whnf)
                (repeat' (first | exact True.intro | exact fun _ h => h | refine inR64_of ?_ ?_ | apply And.intro | refine maxLen_ge ?_)) <;> (first | omega | (dsimp only; omega) | (dsimp only [List.length_cons, List.length_nil]; omega) | (intro hg; rw [hg]; rfl) | (intro hg hh; rw [hg, hh]; rfl) | (intro hg; simp [-List.getD_eq_getElem?_getD, -Int.default_eq_zero] at hg; first | omega | (refine inR64_of ?_ ?_ <;> omega) | (constructor <;> omega)) | (simp [-List.getD_eq_getElem?_getD, -Int.default_eq_zero]; done))
              conv => whnf
              refine ⟨rfl, ?_, trivial, trivial⟩
              all_goals repeat' (first | exact True.intro | refine leF_cons rfl ?_ ?_ | refine leS_cons rfl ?_ ?_ | (show PLe _ _ _ _; conv => whnf) | (show SLe _ _ _ _; conv => whnf) | (show PLeL _ _ _ _; conv => whnf) | apply And.intro | rfl | exact Nat.le_refl _ | exact fun _ _ => rfl | exact rowEq0 _ _)
              simp [-List.getD_eq_getElem?_getD, -Int.default_eq_zero] at hc2
              exact check_hit hlim hlen hsc hlt (by unfold errAt; rw [if_neg (by omega), if_pos (by omega)]) (by decide)
            · conv => whnf
              have h2 : ¬ (0 < i ∧ (l.getD i default).t ≤ (l.getD (i - 1) default).t) := by
                rintro ⟨h1, h2⟩
                rw [hj', hj'' h1] at hc2
                simp [-List.getD_eq_getElem?_getD, -Int.default_eq_zero] at hc2
                omega
              refine ⟨_, fun _ => call32 (l.getD ((i : Int)).toNat default).v 274877906944, ?_⟩
              conv => whnf
              refine ⟨_, fun _ => call32 (l.getD ((i : Int)).toNat default).o 274877906944, ?_⟩
              conv => whnf
              refine ⟨?_, fun hc3 => ?_, fun hc3 => ?_⟩
              · (try conv => whnf)
                (repeat' (first | exact True.intro | exact fun _ h => h | refine inR64_of ?_ ?_ | apply And.intro | refine maxLen_ge ?_)) <;> (first | omega | (dsimp only; omega) | (dsimp only [List.length_cons, List.length_nil]; omega) | (intro hg; rw [hg]; rfl) | (intro hg hh; rw [hg, hh]; rfl) | (intro hg; simp [-List.getD_eq_getElem?_getD, -Int.default_eq_zero] at hg; first | omega | (refine inR64_of ?_ ?_ <;> omega) | (constructor <;> omega)) | (simp [-List.getD_eq_getElem?_getD, -Int.default_eq_zero]; done))
              · conv => whnf
                refine ⟨?_, [], ?_⟩
                · (try conv => whnf)
                  (repeat' (first | exact True.intro | exact fun _ h => h | refine inR64_of ?_ ?_ | apply And.intro | refine maxLen_ge ?_)) <;> (first | omega | (dsimp only; omega) | (dsimp only [List.length_cons, List.length_nil]; omega) | (intro hg; rw [hg]; rfl) | (intro hg hh; rw [hg, hh]; rfl) | (intro hg; simp [-List.getD_eq_getElem?_getD, -Int.default_eq_zero] at hg; first | omega | (refine inR64_of ?_ ?_ <;> omega) | (constructor <;> omega)) | (simp [-List.getD_eq_getElem?_getD, -Int.default_eq_zero]; done))
                conv => whnf
                refine ⟨rfl, ?_, trivial, trivial⟩
                all_goals repeat' (first | exact True.intro | refine leF_cons rfl ?_ ?_ | refine leS_cons rfl ?_ ?_ | (show PLe _ _ _ _; conv => whnf) | (show SLe _ _ _ _; conv => whnf) | (show PLeL _ _ _ _; conv => whnf) | apply And.intro | rfl | exact Nat.le_refl _ | exact fun _ _ => rfl | exact rowEq0 _ _)
                rw [hj'] at hc3
                simp [-List.getD_eq_getElem?_getD, -Int.default_eq_zero] at hc3
                rw [inF_false, inF_false] at hc3
                exact check_hit hlim hlen hsc hlt (by unfold errAt; rw [if_neg (by omega), if_neg h2, if_pos (by omega)]) (by decide)
              · conv => whnf
                refine ⟨?_, i + 1, ⟨?_, ?_⟩, ?_, rfl, rfl, ?_, ?_⟩
                · (try conv => whnf)
                  (repeat' (first | exact True.intro | exact fun _ h => h | refine inR64_of ?_ ?_ | apply And.intro | refine maxLen_ge ?_)) <;> (first | omega | (dsimp only; omega) | (dsimp only [List.length_cons, List.length_nil]; omega) | (intro hg; rw [hg]; rfl) | (intro hg hh; rw [hg, hh]; rfl) | (intro hg; simp [-List.getD_eq_getElem?_getD, -Int.default_eq_zero] at hg; first | omega | (refine inR64_of ?_ ?_ <;> omega) | (constructor <;> omega)) | (simp [-List.getD_eq_getElem?_getD, -Int.default_eq_zero]; done))
                · omega
                · rw [hj'] at hc3
                  simp [-List.getD_eq_getElem?_getD, -Int.default_eq_zero] at hc3
                  rw [inF_true, inF_true] at hc3
                  rw [hsc, scan_step (by omega) (by unfold errAt; rw [if_neg (by omega), if_neg h2, if_neg (by omega)])]
                  congr 1
                · omega
                all_goals repeat' (first | exact True.intro | refine leF_cons rfl ?_ ?_ | refine leS_cons rfl ?_ ?_ | (show PLe _ _ _ _; conv => whnf) | (show SLe _ _ _ _; conv => whnf) | (show PLeL _ _ _ _; conv => whnf) | apply And.intro | rfl | exact Nat.le_refl _ | exact fun _ _ => rfl | exact rowEq0 _ _)
        · replace hc := dec_iff hc
          simp only [Bool.false_eq_true, if_false] at hc
          have hs0 : scan (errAt l) 0 l.length = 0 := by
            rw [hsc, show l.length - i = 0 from by omega]; rfl
          have hcw := check_wide hlim hlen hs0
          conv => whnf
          refine ⟨trivial, ?_⟩
          refine LSem.loop (n := 86) mix (α := Nat) (fun i => i ≤ l.length ∧ scan (widAt l c) 0 l.length = scan (widAt l c) i (l.length - i))
            (fun i => [(0, .sl τ 3 l.length (fl eMe l)), (3, .pt 48 0 0), (69, .sl τ 3 l.length (fl eMe l)), (70, .int .i64 l.length), (71, .int .i64 i)])
            (fun i => [(48, .box (eCk c))]) (fun i => l.length - i) 0 ?_ ?_ ?_
          · exact ⟨by omega, rfl⟩
          · refine ⟨rfl, rfl, ?_, ?_⟩
            all_goals repeat' (first | exact True.intro | refine leF_cons rfl ?_ ?_ | refine leS_cons rfl ?_ ?_ | (show PLe _ _ _ _; conv => whnf) | (show SLe _ _ _ _; conv => whnf) | (show PLeL _ _ _ _; conv => whnf) | apply And.intro | rfl | exact Nat.le_refl _ | exact fun _ _ => rfl | exact rowEq0 _ _)
          · clear hsc hi hj' hc
            intro i hx
            obtain ⟨hi, hsc⟩ := hx
            have hj' : ((i : Int)).toNat = i := by omega
            conv => whnf
            refine ⟨trivial, fun hc => ?_, fun hc => ?_⟩
            · replace hc := dec_iff hc
              simp only [if_true] at hc
              have hlt : i < l.length := by omega
              conv => whnf
              refine ⟨_, fun _ => call33 (lendT τ) l c (l.getD ((i : Int)).toNat default).t (by omega) (near_of hlim hs0 (time_of hs0 (by omega))), ?_⟩
              conv => whnf
              refine ⟨?_, fun hc1 => ?_, fun hc1 => ?_⟩
              · (try conv => whnf)
                (repeat' (first | exact True.intro | exact fun _ h => h | refine inR64_of ?_ ?_ | apply And.intro | refine maxLen_ge ?_)) <;> (first | omega | (dsimp only; omega) | (dsimp only [List.length_cons, List.length_nil]; omega) | (intro hg; rw [hg]; rfl) | (intro hg hh; rw [hg, hh]; rfl) | (intro hg; simp [-List.getD_eq_getElem?_getD, -Int.default_eq_zero] at hg; first | omega | (refine inR64_of ?_ ?_ <;> omega) | (constructor <;> omega)) | (simp [-List.getD_eq_getElem?_getD, -Int.default_eq_zero]; done))
              · conv => whnf
                refine ⟨?_, [], ?_⟩
                · (try conv => whnf)
                  (repeat' (first | exact True.intro | exact fun _ h => h | refine inR64_of ?_ ?_ | apply And.intro | refine maxLen_ge ?_)) <;> (first | omega | (dsimp only; omega) | (dsimp only [List.length_cons, List.length_nil]; omega) | (intro hg; rw [hg]; rfl) | (intro hg hh; rw [hg, hh]; rfl) | (intro hg; simp [-List.getD_eq_getElem?_getD, -Int.default_eq_zero] at hg; first | omega | (refine inR64_of ?_ ?_ <;> omega) | (constructor <;> omega)) | (simp [-List.getD_eq_getElem?_getD, -Int.default_eq_zero]; done))
                conv => whnf
                refine ⟨rfl, ?_, trivial, trivial⟩
                all_goals repeat' (first | exact True.intro | refine leF_cons rfl ?_ ?_ | refine leS_cons rfl ?_ ?_ | (show PLe _ _ _ _; conv => whnf) | (show SLe _ _ _ _; conv => whnf) | (show PLeL _ _ _ _; conv => whnf) | apply And.intro | rfl | exact Nat.le_refl _ | exact fun _ _ => rfl | exact rowEq0 _ _)
                rw [hj'] at hc1
                simp [-List.getD_eq_getElem?_getD, -Int.default_eq_zero] at hc1
                have hw : widAt l c i = 48 := by unfold widAt; rw [if_pos (by omega)]
                rw [hcw, hsc, scan_hit (by omega) (by rw [hw]; decide), hw]
              · conv => whnf
                refine ⟨?_, i + 1, ⟨?_, ?_⟩, ?_, rfl, rfl, ?_, ?_⟩
                · (try conv => whnf)
                  (repeat' (first | exact True.intro | exact fun _ h => h | refine inR64_of ?_ ?_ | apply And.intro | refine maxLen_ge ?_)) <;> (first | omega | (dsimp only; omega) | (dsimp only [List.length_cons, List.length_nil]; omega) | (intro hg; rw [hg]; rfl) | (intro hg hh; rw [hg, hh]; rfl) | (intro hg; simp [-List.getD_eq_getElem?_getD, -Int.default_eq_zero] at hg; first | omega | (refine inR64_of ?_ ?_ <;> omega) | (constructor <;> omega)) | (simp [-List.getD_eq_getElem?_getD, -Int.default_eq_zero]; done))
                · omega
                · rw [hj'] at hc1
                  simp [-List.getD_eq_getElem?_getD, -Int.default_eq_zero] at hc1
                  rw [hsc, scan_step (by omega) (by unfold widAt; rw [if_neg (by omega)])]
                  congr 1
                · omega
                all_goals repeat' (first | exact True.intro | refine leF_cons rfl ?_ ?_ | refine leS_cons rfl ?_ ?_ | (show PLe _ _ _ _; conv => whnf) | (show SLe _ _ _ _; conv => whnf) | (show PLeL _ _ _ _; conv => whnf) | apply And.intro | rfl | exact Nat.le_refl _ | exact fun _ _ => rfl | exact rowEq0 _ _)
            · replace hc := dec_iff hc
              simp only [Bool.false_eq_true, if_false] at hc
              conv => whnf
              refine ⟨?_, [], ?_⟩
              · (try conv => whnf)
                (repeat' (first | exact True.intro | exact fun _ h => h | refine inR64_of ?_ ?_ | apply And.intro | refine maxLen_ge ?_)) <;> (first | omega | (dsimp only; omega) | (dsimp only [List.length_cons, List.length_nil]; omega) | (intro hg; rw [hg]; rfl) | (intro hg hh; rw [hg, hh]; rfl) | (intro hg; simp [-List.getD_eq_getElem?_getD, -Int.default_eq_zero] at hg; first | omega | (refine inR64_of ?_ ?_ <;> omega) | (constructor <;> omega)) | (simp [-List.getD_eq_getElem?_getD, -Int.default_eq_zero]; done))
              conv => whnf
              refine ⟨rfl, ?_, trivial, trivial⟩
              all_goals repeat' (first | exact True.intro | refine leF_cons rfl ?_ ?_ | refine leS_cons rfl ?_ ?_ | (show PLe _ _ _ _; conv => whnf) | (show SLe _ _ _ _; conv => whnf) | (show PLeL _ _ _ _; conv => whnf) | apply And.intro | rfl | exact Nat.le_refl _ | exact fun _ _ => rfl | exact rowEq0 _ _)
              rw [hcw, hsc, show l.length - i = 0 from by omega]; rfl

end Pv
end Go.Proofs.Ytiknpkadlckmjaa
