/- LAW 29, THE WALKS, 2: limits, the reference's bounds, both checks. -/
import Derived.Test.YtiknpkadlckmjaaW1
namespace Go.Proofs.Ytiknpkadlckmjaa
namespace Pv

def limitsF (c : Ck) : Int := if c.lo < 0 ∨ c.lo > c.hi ∨ c.hi > 274877906944 ∨ c.j < 0 ∨ c.j > 274877906944 then 1 else 0

theorem call30 (c : Ck) : PureCall Try.prog 30 [.agg (eCk c)] [] ⟨.int .i64 (limitsF c), [], []⟩ := by
  refine pure_call mix Try.func30 fits30 rfl ?_
  conv => whnf
  refine ⟨?_, fun hc => ?_, fun hc => ?_⟩
  · simp
  · conv => whnf
    refine ⟨trivial, [], ?_⟩
    conv => whnf
    refine ⟨rfl, ?_, trivial, trivial⟩
    all_goals repeat' (first | exact True.intro | refine leF_cons rfl ?_ ?_ | refine leS_cons rfl ?_ ?_ | (show PLe _ _ _ _; conv => whnf) | (show SLe _ _ _ _; conv => whnf) | (show PLeL _ _ _ _; conv => whnf) | apply And.intro | rfl | exact Nat.le_refl _ | exact fun _ _ => rfl | exact rowEq0 _ _)
    simp at hc
    unfold limitsF; split <;> omega
  · conv => whnf
    refine ⟨trivial, [], ?_⟩
    conv => whnf
    refine ⟨rfl, ?_, trivial, trivial⟩
    all_goals repeat' (first | exact True.intro | refine leF_cons rfl ?_ ?_ | refine leS_cons rfl ?_ ?_ | (show PLe _ _ _ _; conv => whnf) | (show SLe _ _ _ _; conv => whnf) | (show PLeL _ _ _ _; conv => whnf) | apply And.intro | rfl | exact Nat.le_refl _ | exact fun _ _ => rfl | exact rowEq0 _ _)
    simp at hc
    unfold limitsF; split <;> omega

def inF (x m : Int) : Bool := bif decide (x ≥ 0) then decide (x ≤ m) else false
theorem call32 (x m : Int) : PureCall Try.prog 32 [.int .i64 x, .int .i64 m] [] ⟨.bool (inF x m), [], []⟩ := by
  refine pure_call mix Try.func32 fits32 rfl ?_
  conv => whnf
  refine ⟨?_, [], ?_⟩
  · conv => whnf
    simp
  · conv => whnf
    refine ⟨rfl, ?_, trivial, trivial⟩
    all_goals repeat' (first | exact True.intro | refine leF_cons rfl ?_ ?_ | refine leS_cons rfl ?_ ?_ | (show PLe _ _ _ _; conv => whnf) | (show SLe _ _ _ _; conv => whnf) | (show PLeL _ _ _ _; conv => whnf) | apply And.intro | rfl | exact Nat.le_refl _ | exact fun _ _ => rfl | exact rowEq0 _ _)

theorem fits33 : fits Try.prog false Try.f33 3 50 [(6, some (2, true))] = some c33.er := by kernel_rfl

theorem call33 (τ : Nat) (l : List Me) (c : Ck) (time : Int) (hl : l.length ≤ 1000) (h : ∀ m ∈ l, Near m c time) : PureCall Try.prog 33 [.sl τ 3 l.length (fl eMe l), .agg (eCk c), .int .i64 time] [] ⟨.agg (eBo (boundsF l c time)), [], []⟩ := by
  refine pure_call mix Try.func33 fits33 rfl ?_
  conv => whnf
  refine ⟨trivial, ?_⟩
  refine LSem.loop (n := 50) mix (α := Nat × Bo) (fun x => x.1 ≤ l.length ∧ IsB l c time (· < x.1) x.2)
    (fun x => [(0, .sl τ 3 l.length (fl eMe l)), (2, .int .i64 time), (4, .pt 64 0 0), (6, .pt 96 0 0), (7, .pt 112 0 0), (16, .sl τ 3 l.length (fl eMe l)), (17, .int .i64 l.length), (18, .int .i64 x.1)])
    (fun x => [(64, .box (eCk c)), (96, .box [.int .i64 0, .int .i64 0]), (112, .box (eBo x.2))]) (fun x => l.length - x.1) (0, ⟨c.lo, c.hi⟩) ?_ ?_ ?_
  · exact ⟨by simp only; omega, Int.le_refl _, Int.le_refl _, fun k m h => by simp only at h; omega, .inl rfl, .inl rfl⟩
  · refine ⟨rfl, rfl, ?_, ?_⟩
    all_goals repeat' (first | exact True.intro | refine leF_cons rfl ?_ ?_ | refine leS_cons rfl ?_ ?_ | (show PLe _ _ _ _; conv => whnf) | (show SLe _ _ _ _; conv => whnf) | (show PLeL _ _ _ _; conv => whnf) | apply And.intro | rfl | exact Nat.le_refl _ | exact fun _ _ => rfl | exact rowEq0 _ _)
  · intro x hx
    obtain ⟨hi, hb⟩ := hx
    have hj' : ((x.1 : Int)).toNat = x.1 := by omega
    conv => whnf
    refine ⟨trivial, fun hc => ?_, fun hc => ?_⟩
    · replace hc := dec_iff hc
      simp only [if_true] at hc
      have hm := h _ (getD_mem (l := l) (i := ((x.1 : Int)).toNat) (by omega))
      have hm2 := hm
      obtain ⟨r1, r2⟩ := reach_rng hm
      obtain ⟨h1, h2, h3, h4, h5, h6, h7, h8⟩ := hm
      have e0 : 0 - ((l.getD ((x.1 : Int)).toNat default).t - time) = time - (l.getD ((x.1 : Int)).toNat default).t := by omega
      rw [e0] at r1 r2
      conv => whnf
      refine ⟨_, fun _ => call37 (l.getD ((x.1 : Int)).toNat default).t time (inR64_of (by omega) (by omega)) (inR64_of (by omega) (by omega)), ?_⟩
      conv => whnf
      refine ⟨rfl, ?_⟩
      conv => whnf
      refine ⟨?_, (x.1 + 1, meetF x.2 (l.getD ((x.1 : Int)).toNat default) c time), ⟨?_, ?_⟩, ?_, rfl, rfl, ?_, ?_⟩
      · repeat' (first | exact True.intro | refine inR64_of ?_ ?_ | apply And.intro)
        all_goals omega
      · simp only; omega
      · rw [hj']
        exact hb.meet (k := x.1) (getD_some (by omega)) (fun i => by simp only; omega)
      · simp only; omega
      all_goals repeat' (first | exact True.intro | refine leF_cons rfl ?_ ?_ | refine leS_cons rfl ?_ ?_ | (show PLe _ _ _ _; conv => whnf) | (show SLe _ _ _ _; conv => whnf) | (show PLeL _ _ _ _; conv => whnf) | apply And.intro | rfl | exact Nat.le_refl _ | exact fun _ _ => rfl | exact rowEq0 _ _)
      all_goals (try simp only [meetF, reach])
      all_goals rw [e0]; rfl
    · conv => whnf
      replace hc := dec_iff hc
      simp only [Bool.false_eq_true, if_false] at hc
      have e : boundsF l c time = x.2 := (boundsF_is l c time).uniq (by
        have e : x.1 = l.length := by omega
        rw [e] at hb; exact hb)
      rw [e]
      refine ⟨trivial, [], ?_⟩
      conv => whnf
      refine ⟨rfl, ?_, trivial, trivial⟩
      all_goals repeat' (first | exact True.intro | refine leF_cons rfl ?_ ?_ | refine leS_cons rfl ?_ ?_ | (show PLe _ _ _ _; conv => whnf) | (show SLe _ _ _ _; conv => whnf) | (show PLeL _ _ _ _; conv => whnf) | apply And.intro | rfl | exact Nat.le_refl _ | exact fun _ _ => rfl | exact rowEq0 _ _)

end Pv
end Go.Proofs.Ytiknpkadlckmjaa
