/- REGIONS: in the order of the text, and in whatever order. -/
import Derived.Test.YtogoplhikmmggaaPv14
set_option linter.unusedSimpArgs false
set_option linter.unusedVariables false
namespace Go.Proofs.Ytogoplhikmmggaa
namespace Pv
open Go.RowKit

section
variable {P : Program} {X : Cx} {γ : Gh} {w w0 : World} {st st' : Nat → Option SE} {may : Nat → Prop} {a : Act} {s s' : PS} {ops : Array Oper} {Q : Exit → Act → World → Prop} {K : Act → World → Prop}

theorem compO_parts {wr : Bool} {o : Oper} {x : Ins} (h : compO P wr ops o = some x) : guardS ops o.guard = some x.g ∧ compI P wr o = some x.i ∧ x.d = o.dst := by
  unfold compO at h
  split at h
  · rename_i g i hg hi
    injection h with h; subst h
    exact ⟨hg, hi, rfl⟩
  · cases h

theorem guard_none {o : Oper} {x : Ins} (hg : guardS ops o.guard = some x.g) (hx : x.g = none) (f : Nat → Option Bool) : Region.wanted o f = true := by
  unfold Region.wanted
  cases h : o.guard with
  | none => rfl
  | some jw =>
    obtain ⟨j, want⟩ := jw
    rw [h] at hg
    simp only [guardS] at hg
    split at hg
    · rw [hx] at hg; cases hg
    · cases hg

theorem guard_some {o : Oper} {x : Ins} {g : Nat × Bool} {G : Bool} (hR : Rel X w0 may a w s γ) (hg : guardS ops o.guard = some x.g) (hx : x.g = some g) (hG : guardV s.fr x.g = some G) :
    Region.wanted o (yielded ops a.tmps) = G := by
  unfold Region.wanted
  cases h : o.guard with
  | none => rw [h, hx] at hg; cases hg
  | some jw =>
    obtain ⟨j, want⟩ := jw
    rw [h] at hg
    simp only [guardS] at hg
    split at hg
    · rename_i d hd
      rw [hx] at hg; injection hg with hg; injection hg with hg; subst hg
      rw [hx] at hG
      simp only [guardV] at hG
      have hy : ∀ p, s.fr d = some p → ∃ v, a.tmps[d]? = some v ∧ Rep X γ w p v := fun p hp => by
        obtain ⟨h1, h2⟩ := hR.fr d p hp
        have hlt : d < a.tmps.size := by rw [hR.size]; exact h1
        refine ⟨a.tmps[d], by simp [hlt], ?_⟩
        simpa [Array.getD_eq_getD_getElem?, hlt] using h2
      simp only
      unfold yielded
      rw [hd]
      simp only [Option.bind_some]
      split at hG
      · rename_i b hb
        injection hG with hG; subst hG
        obtain ⟨v, hv, hr⟩ := hy _ hb
        cases hr.bool_inv
        rw [hv]; cases b <;> cases want <;> rfl
      · rename_i gg b hb
        injection hG with hG; subst hG
        obtain ⟨v, hv, hr⟩ := hy _ hb
        rw [hv]
        cases gg with
        | true => cases (hr.cnd_inv rfl).bool_inv; cases b <;> cases want <;> rfl
        | false =>
          cases hr with
          | cnd _ _ _ _ hu => rw [hu rfl]; cases want <;> rfl
      · cases hG
    · cases hg

/-- An instruction that is carried out, walked. -/
theorem step_main {wr lg : Bool} {o : Oper} {x : Ins} {c : CallRes} {i : Nat} {G : Bool} {vs vs0 : List PV} {cs : List SE} {E : Eff} (hR : Rel X w0 may a w s γ) (hi : compI P wr o = some x.i) (hd : x.d = o.dst) (H : StepP (PureCall P) lg c i x s s' G vs cs E)
    (hv0 : valL s.fr x.i.opr = some vs0) (hvs : stripI x.i G vs0 = ((stripI x.i G vs0).1, vs)) (hK : ∀ a' w' γ', Rel X w0 may a' w' s' γ' → K a' w') (hG : G = true) (ha : allP ((stripI x.i G vs0).1 ++ E.side)) : o.wp P a w K Q := by
  subst hG
  obtain ⟨ha1, ha2⟩ := (allP_append _ _).1 ha
  have e1 : (stripI x.i true vs0).2 = vs := by rw [hvs]
  have := op_wp (Q := Q) hR hi hv0 ha1 (by rw [e1]; exact H.ent) (by rw [e1]; exact H.eff) ha2 H.st
  refine Oper.wp_mono ?_ this
  rintro a' w' ⟨v, γ', rfl, hE⟩
  refine hK _ _ γ' (hR.after hE H.n fun t p hp => ?_)
  rw [H.fr] at hp
  cases hxd : x.d with
  | none =>
    rw [hxd] at hp
    right
    refine ⟨by rw [← hd, hxd]; simp, ?_⟩
    simp only [voidF] at hp
    obtain ⟨q, hq, rfl⟩ := Option.map_eq_some_iff.1 hp
    exact ⟨q, hq, rfl⟩
  | some d =>
    rw [hxd] at hp
    simp only at hp
    by_cases htd : t = d
    · subst htd
      rw [upd_same] at hp; injection hp with hp; subst hp
      left
      refine ⟨by rw [← hd, hxd], H.dlt _ hxd, ?_⟩
      split
      · exact hE.val
      · exact .cnd _ _ _ (fun _ => hE.val) (fun h => by cases h)
    · rw [upd_ne _ _ htd] at hp
      right
      refine ⟨by rw [← hd, hxd]; simpa using fun h => htd h.symm, ?_⟩
      simp only [voidF] at hp
      obtain ⟨q, hq, rfl⟩ := Option.map_eq_some_iff.1 hp
      exact ⟨q, hq, rfl⟩

/-- One instruction, walked. -/
theorem step_sound {wr lg : Bool} {o : Oper} {x : Ins} {c : CallRes} {i k : Nat} (hk : ops[k]? = some o) (hR : Rel X w0 may a w s γ) (ho : compO P wr ops o = some x) (hs : stepI (PureCall P) lg c i x s = some s') (hok : s'.ok)
    (hK : ∀ a' w' γ', Rel X w0 may a' w' s' γ' → K a' w') : wpOp P ops Q k K a w := by
  obtain ⟨hg, hi, hd⟩ := compO_parts ho
  obtain ⟨G, vs, cs, E, H⟩ := stepI_parts hs
  obtain ⟨vs0, hv0, hvs, hokk⟩ := H.vals
  have main : G = true → allP ((stripI x.i G vs0).1 ++ E.side) → o.wp P a w K Q := step_main hR hi hd H hv0 hvs hK
  unfold wpOp
  rw [hk]
  simp only
  cases hxg : x.g with
  | none =>
    have hG : G = true := by have := H.guard; rw [hxg] at this; simpa [guardV] using this.symm
    rw [guard_none hg hxg, if_pos rfl]
    exact .inl (main hG ((hokk.1 hok).2.2 hxg))
  | some g =>
    rw [guard_some hR hg hxg H.guard]
    cases G with
    | true =>
      rw [if_pos rfl]
      exact .inl (main rfl ((hokk.1 hok).2.1 (by rw [hxg]; simp) rfl))
    | false =>
      rw [if_neg (by simp)]
      obtain ⟨h1, h2, h3, h4, h5⟩ := H.gd (by rw [hxg]; simp)
      have hst : s'.st = s.st := by
        have := H.st
        rw [h1, h2, h3, h4] at this
        simpa [newSt] using this.symm
      have hE : EffOK X γ w s.st (Eff.pure .junk) undef w γ s'.st := by
        rw [hst]; exact EffOK.still (Eff.still_pure _) hR.st (.junk _)
      refine hK _ _ γ (hR.after hE H.n fun t p hp => ?_)
      rw [H.fr, h3, voidF_nil] at hp
      cases hxd : x.d with
      | none => exact absurd hxd h5
      | some d =>
        rw [hxd] at hp
        simp only at hp
        by_cases htd : t = d
        · subst htd
          rw [upd_same] at hp; injection hp with hp; subst hp
          left
          refine ⟨by rw [← hd, hxd], H.dlt _ hxd, ?_⟩
          rw [if_neg (by rw [hxg]; simp)]
          exact .cnd _ _ _ (fun h => by cases h) (fun _ => rfl)
        · rw [upd_ne _ _ htd] at hp
          right
          exact ⟨by rw [← hd, hxd]; simpa using fun h => htd h.symm, p, hp, (void_nil p).symm⟩

/-- The same, where a guard that is known may be looked at first. -/
theorem stepX_sound {wr lg : Bool} {o : Oper} {x : Ins} {c : CallRes} {i k : Nat} (hk : ops[k]? = some o) (hR : Rel X w0 may a w s γ) (ho : compO P wr ops o = some x) (hs : stepX (PureCall P) lg c i x s = some s') (hok : s'.ok)
    (hK : ∀ a' w' γ', Rel X w0 may a' w' s' γ' → K a' w') : wpOp P ops Q k K a w := by
  cases lg with
  | true => exact step_sound (lg := true) hk hR ho (by simpa only [stepX] using hs) hok hK
  | false =>
    obtain ⟨hg, hi, hd⟩ := compO_parts ho
    obtain ⟨od, oid, og, oi⟩ := x
    obtain ⟨n, fr, st, ok, log⟩ := s
    simp only [stepX, stepG] at hs
    split at hs
    · rename_i g _ _ hh
      split at hs
      · rename_i hgv
        obtain ⟨G, vs, cs, E, H⟩ := stepI_parts hs
        obtain ⟨vs0, hv0, hvs, hokk⟩ := H.vals
        have hG : G = true := by have := H.guard; simpa [guardV] using this.symm
        have main := step_main (Q := Q) (x := ⟨od, oid, none, oi⟩) hR hi hd H hv0 hvs hK hG ((hokk.1 hok).2.2 rfl)
        unfold wpOp
        rw [hk]
        simp only
        rw [guard_some hR hg rfl hgv, if_pos rfl]
        exact .inl main
      · rename_i hgv
        unfold wpOp
        rw [hk]
        simp only
        rw [guard_some hR hg rfl hgv, if_neg (by simp)]
        have hE : EffOK X γ w st (Eff.pure .junk) undef w γ st := EffOK.still (Eff.still_pure _) hR.st (.junk _)
        cases hod : od with
        | none =>
          rw [hod] at hs
          simp only [Option.some.injEq] at hs
          subst hs
          rw [← hd]
          simp only [hod]
          exact hK _ _ γ (hR.after hE rfl fun t p hp => .inr ⟨by simp, p, hp, (void_nil p).symm⟩)
        | some d =>
          rw [hod] at hs
          simp only at hs
          split at hs
          · rename_i hlt
            injection hs with hs; subst hs
            rw [← hd]
            simp only [hod]
            refine hK _ _ γ (hR.after hE rfl fun t p hp => ?_)
            simp only at hp
            by_cases htd : t = d
            · subst htd
              rw [upd_same] at hp; injection hp with hp; subst hp
              exact .inl ⟨rfl, by simpa [Nat.blt_eq] using hlt, .cnd _ _ _ (fun h => by cases h) (fun _ => rfl)⟩
            · rw [upd_ne _ _ htd] at hp
              exact .inr ⟨by simpa using fun h => htd h.symm, p, hp, (void_nil p).symm⟩
          · cases hs
      · cases hs
    · rename_i g _ _ hh
      split at hs
      · rename_i hgv
        unfold wpOp
        rw [hk]
        simp only
        rw [guard_some hR hg rfl hgv, if_neg (by simp)]
        have hE : EffOK X γ w st (Eff.pure .junk) undef w γ st := EffOK.still (Eff.still_pure _) hR.st (.junk _)
        cases hod : od with
        | none =>
          rw [hod] at hs
          simp only [Option.some.injEq] at hs
          subst hs
          rw [← hd]
          simp only [hod]
          exact hK _ _ γ (hR.after hE rfl fun t p hp => .inr ⟨by simp, p, hp, (void_nil p).symm⟩)
        | some d =>
          rw [hod] at hs
          simp only at hs
          split at hs
          · rename_i hlt
            injection hs with hs; subst hs
            rw [← hd]
            simp only [hod]
            refine hK _ _ γ (hR.after hE rfl fun t p hp => ?_)
            simp only at hp
            by_cases htd : t = d
            · subst htd
              rw [upd_same] at hp; injection hp with hp; subst hp
              exact .inl ⟨rfl, by simpa [Nat.blt_eq] using hlt, .cnd _ _ _ (fun h => by cases h) (fun _ => rfl)⟩
            · rw [upd_ne _ _ htd] at hp
              exact .inr ⟨by simpa using fun h => htd h.symm, p, hp, (void_nil p).symm⟩
          · cases hs
      · cases hs
    · rename_i g _ _ hh
      split at hs
      · rename_i s'' hs''
        injection hs with hs; subst hs
        exact step_sound hk hR ho hs'' hok hK
      · split at hs
        · rename_i hgv
          obtain ⟨G, vs, cs, E, H⟩ := stepI_parts hs
          obtain ⟨vs0, hv0, hvs, hokk⟩ := H.vals
          have hG : G = true := by have := H.guard; simpa [guardV] using this.symm
          have main := step_main (Q := Q) (x := ⟨od, oid, none, oi⟩) hR hi hd H hv0 hvs hK hG ((hokk.1 hok).2.2 rfl)
          unfold wpOp
          rw [hk]
          simp only
          rw [guard_some hR hg rfl hgv, if_pos rfl]
          exact .inl main
        · rename_i hgv
          unfold wpOp
          rw [hk]
          simp only
          rw [guard_some hR hg rfl hgv, if_neg (by simp)]
          have hE : EffOK X γ w st (Eff.pure .junk) undef w γ st := EffOK.still (Eff.still_pure _) hR.st (.junk _)
          cases hod : od with
          | none =>
            rw [hod] at hs
            simp only [Option.some.injEq] at hs
            subst hs
            rw [← hd]
            simp only [hod]
            exact hK _ _ γ (hR.after hE rfl fun t p hp => .inr ⟨by simp, p, hp, (void_nil p).symm⟩)
          | some d =>
            rw [hod] at hs
            simp only at hs
            split at hs
            · rename_i hlt
              injection hs with hs; subst hs
              rw [← hd]
              simp only [hod]
              refine hK _ _ γ (hR.after hE rfl fun t p hp => ?_)
              simp only at hp
              by_cases htd : t = d
              · subst htd
                rw [upd_same] at hp; injection hp with hp; subst hp
                exact .inl ⟨rfl, by simpa [Nat.blt_eq] using hlt, .cnd _ _ _ (fun h => by cases h) (fun _ => rfl)⟩
              · rw [upd_ne _ _ htd] at hp
                exact .inr ⟨by simpa using fun h => htd h.symm, p, hp, (void_nil p).symm⟩
            · cases hs
        · cases hs
    · exact step_sound hk hR ho hs hok hK

/-- Numbered instructions. -/
def evL (S : FuncId → List PV → List SE → CallRes → Prop) (lg : Bool) (cr : Nat → CallRes) : List (Nat × Ins) → PS → Option PS
  | [], s => some s
  | (i, x) :: r, s => match stepX S lg (cr i) i x s with
    | some s' => evL S lg cr r s'
    | none => none

theorem stepI_ok {S : FuncId → List PV → List SE → CallRes → Prop} {lg : Bool} {c : CallRes} {i : Nat} {x : Ins} (h : stepI S lg c i x s = some s') (hok : s'.ok) : s.ok := by
  obtain ⟨G, vs, cs, E, H⟩ := stepI_parts h
  obtain ⟨vs0, hv0, hvs, hokk⟩ := H.vals
  exact (hokk.1 hok).1
theorem stepX_ok {S : FuncId → List PV → List SE → CallRes → Prop} {lg : Bool} {c : CallRes} {i : Nat} {x : Ins} (h : stepX S lg c i x s = some s') (hok : s'.ok) : s.ok := by
  cases lg with
  | true => exact stepI_ok (lg := true) (by simpa only [stepX] using h) hok
  | false =>
    obtain ⟨od, oid, og, oi⟩ := x
    obtain ⟨n, fr, st, ok, log⟩ := s
    simp only [stepX, stepG] at h
    split at h
    · split at h
      · exact stepI_ok h hok
      · split at h
        · injection h with h; subst h; exact hok
        · split at h
          · injection h with h; subst h; exact hok
          · cases h
      · cases h
    · split at h
      · split at h
        · injection h with h; subst h; exact hok
        · split at h
          · injection h with h; subst h; exact hok
          · cases h
      · cases h
    · split at h
      · rename_i s'' hs''
        injection h with h; subst h
        exact stepI_ok hs'' hok
      · split at h
        · exact stepI_ok h hok
        · split at h
          · injection h with h; subst h; exact hok
          · split at h
            · injection h with h; subst h; exact hok
            · cases h
        · cases h
    · exact stepI_ok h hok
theorem evL_ok {S : FuncId → List PV → List SE → CallRes → Prop} {lg : Bool} {cr : Nat → CallRes} : ∀ {l : List (Nat × Ins)} {s s' : PS}, evL S lg cr l s = some s' → s'.ok → s.ok
  | [], s, s', h, hok => by simp only [evL, Option.some.injEq] at h; subst h; exact hok
  | (i, x) :: r, s, s', h, hok => by
    simp only [evL] at h
    split at h
    · rename_i s1 h1; exact stepX_ok h1 (evL_ok h hok)
    · cases h

/-- A region in the order of the text. -/
theorem reg_sound {wr lg : Bool} {cr : Nat → CallRes} : ∀ {l : List (Nat × Ins)} {a : Act} {w : World} {s s' : PS} {γ : Gh}, (∀ p ∈ l, ∃ o, ops[p.1]? = some o ∧ compO P wr ops o = some p.2) →
    Rel X w0 may a w s γ → evL (PureCall P) lg cr l s = some s' → s'.ok → (∀ a' w' γ', Rel X w0 may a' w' s' γ' → Q .normal a' w') → wpOps P ops Q (l.map (·.1)) a w
  | [], a, w, s, s', γ, hl, hR, h, hok, hK => by
    simp only [evL, Option.some.injEq] at h; subst h
    simpa [wpOps] using hK _ _ _ hR
  | (i, x) :: r, a, w, s, s', γ, hl, hR, h, hok, hK => by
    simp only [evL] at h
    split at h
    · rename_i s1 h1
      obtain ⟨o, ho, hx⟩ := hl (i, x) (by simp)
      rw [List.map_cons, wpOps_cons]
      exact stepX_sound ho hR hx h1 (evL_ok h hok) fun a' w' γ' hR' => reg_sound (fun p hp => hl p (by simp [hp])) hR' h hok hK
    · cases h
end
end Pv
end Go.Proofs.Ytogoplhikmmggaa
