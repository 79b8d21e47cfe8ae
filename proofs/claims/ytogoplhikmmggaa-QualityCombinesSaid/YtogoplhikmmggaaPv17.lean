/- TWO STEPS THAT DO NOT DISTURB ONE ANOTHER, SECOND PART: the exchange. -/
import Derived.Test.YtogoplhikmmggaaPv16
set_option linter.unusedSimpArgs false
set_option linter.unusedVariables false
namespace Go.Proofs.Ytogoplhikmmggaa
namespace Pv
open Go.RowKit

section
variable {S : FuncId → List PV → List SE → CallRes → Prop} {c c' : CallRes} {i j : Nat} {x y : Ins} {s s' s₁ s₂ : PS}

theorem okO_mk : ∀ (l : List Prop) (ok : Prop), ∃ ok', okO ok l = some ok'
  | [], ok => ⟨ok, rfl⟩
  | _ :: ps, _ => okO_mk ps _
theorem okG_mk (G : Bool) : ∀ (l : List Prop) (ok : Prop), ∃ ok', okG G ok l = some ok'
  | [], ok => ⟨ok, rfl⟩
  | _ :: ps, _ => okG_mk G ps _

/-- The same step from another state that looks the same to it. -/
theorem stepI_mk {G : Bool} {vs : List PV} {cs : List SE} {E : Eff} (H : StepP S true c i x s s' G vs cs E) {st₂ : Nat → Option SE} (hg : guardV s₂.fr x.g = guardV s.fr x.g) (hv : valL s₂.fr x.i.opr = valL s.fr x.i.opr)
    (hc : getL s₂.st (x.i.acc vs) = getL s.st (x.i.acc vs)) (hst : newSt x.id E.kill E.rm E.wr E.nw s₂.st = some st₂) (hn : s₂.n = s.n) :
    ∃ s₂', stepI S true c i x s₂ = some s₂' ∧ StepP S true c i x s₂ s₂' G vs cs E := by
  obtain ⟨vs0, hv0, hvs, _⟩ := H.vals
  have key : ∃ s₂', stepI S true c i x s₂ = some s₂' := by
    have h1 := H.guard
    have h2 := H.ent
    have h3 := H.eff
    have h5 := H.dlt
    have h6 := H.gd
    rw [← hg] at h1
    rw [← hv] at hv0
    rw [← hc] at h2
    obtain ⟨n, fr, st, ok, log⟩ := s₂
    obtain ⟨od, oid, og, oi⟩ := x
    obtain ⟨val, side, wr, nw, kill, rm⟩ := E
    simp only at *
    unfold stepI
    simp only [h1, hv0]
    rw [hvs]
    simp only [h2, h3, logO]
    cases og with
    | none =>
      obtain ⟨ok', hok⟩ := okO_mk ((stripI oi G vs0).1 ++ side) ok
      simp only [hok, hst, newFr_eq, norm_some]
      cases od with
      | none => exact ⟨_, rfl⟩
      | some d =>
        have := h5 d rfl
        have hb : Nat.blt d n = true := by rw [Nat.blt_eq, hn]; exact this
        simp only [hb]
        exact ⟨_, rfl⟩
    | some g =>
      obtain ⟨e1, e2, e3, e4, e5⟩ := h6 (by simp)
      subst e1 e2 e3 e4
      cases od with
      | none => exact absurd rfl e5
      | some d =>
        obtain ⟨ok', hok⟩ := okG_mk G ((stripI oi G vs0).1 ++ side) ok
        have := h5 d rfl
        have hb : Nat.blt d n = true := by rw [Nat.blt_eq, hn]; exact this
        simp only [hok, norm_some, hb]
        exact ⟨_, rfl⟩
  obtain ⟨s₂', h⟩ := key
  obtain ⟨G', vs', cs', E', H'⟩ := stepI_parts h
  have g1 := H'.guard
  rw [hg, H.guard] at g1; injection g1 with g1; subst g1
  obtain ⟨vs0', hv0', hvs', _⟩ := H'.vals
  rw [hv, hv0] at hv0'; injection hv0' with hv0'; subst hv0'
  have e1 : vs = vs' := by
    have a1 : (stripI x.i G vs0).2 = vs := by rw [hvs]
    have a2 : (stripI x.i G vs0).2 = vs' := by rw [hvs']
    exact a1.symm.trans a2
  subst e1
  have g2 := H'.ent
  rw [hc, H.ent] at g2; injection g2 with g2; subst g2
  have g3 := H'.eff
  rw [H.eff] at g3; injection g3 with g3; subst g3
  exact ⟨s₂', h, H'⟩

/-- The same, but for how what has to be shown is put. -/
structure Sim (s s' : PS) : Prop where
  n : s.n = s'.n
  fr : s.fr = s'.fr
  st : s.st = s'.st
  log : s.log = s'.log
  ok : s.ok ↔ s'.ok

theorem Sim.refl (s : PS) : Sim s s := ⟨rfl, rfl, rfl, rfl, Iff.rfl⟩
theorem Sim.trans (h : Sim s s') (h' : Sim s' s₁) : Sim s s₁ := ⟨h.n.trans h'.n, h.fr.trans h'.fr, h.st.trans h'.st, h.log.trans h'.log, h.ok.trans h'.ok⟩

theorem stepI_sim (h : Sim s s₁) (hs : stepI S true c i x s = some s') : ∃ s₁', stepI S true c i x s₁ = some s₁' ∧ Sim s' s₁' := by
  obtain ⟨G, vs, cs, E, H⟩ := stepI_parts hs
  obtain ⟨s₁', h1, H1⟩ := stepI_mk (s₂ := s₁) (st₂ := s'.st) H (by rw [h.fr]) (by rw [h.fr]) (by rw [h.st]) (by rw [← h.st]; exact H.st) h.n.symm
  refine ⟨s₁', h1, by rw [H.n, H1.n, h.n], by rw [H.fr, H1.fr, h.fr], ?_, ?_, ?_⟩
  · have a := H.st; rw [h.st, H1.st] at a; injection a with a; exact a.symm
  · have a := H.log; rw [h.log, H1.log] at a; injection a with a; exact a.symm
  · obtain ⟨vs0, hv0, _, hok⟩ := H.vals
    obtain ⟨vs0', hv0', _, hok'⟩ := H1.vals
    rw [← h.fr, hv0] at hv0'; injection hv0' with hv0'; subst hv0'
    rw [hok, hok', h.ok]

theorem evL_sim {cr : Nat → CallRes} : ∀ {l : List (Nat × Ins)} {s s' s₁ : PS}, Sim s s₁ → evL S true cr l s = some s' → ∃ s₁', evL S true cr l s₁ = some s₁' ∧ Sim s' s₁'
  | [], s, s', s₁, h, hs => by simp only [evL, Option.some.injEq] at hs; subst hs; exact ⟨s₁, rfl, h⟩
  | (i, x) :: r, s, s', s₁, h, hs => by
    simp only [evL, stepX] at hs
    split at hs
    · rename_i s2 h2
      obtain ⟨s2', h3, h4⟩ := stepI_sim h h2
      simp only [evL, stepX, h3]
      exact evL_sim h4 hs
    · cases hs

theorem val_same {fr fr' : Nat → Option PV} : ∀ {l : List A}, (∀ t ∈ l.flatMap A.slots, fr t = fr' t) → valL fr l = valL fr' l
  | [], _ => rfl
  | a :: l, h => by
    have h1 : A.val fr a = A.val fr' a := by
      cases a with
      | t n => exact h n (by simp [A.slots])
      | c p => rfl
    have h2 := val_same (l := l) (fr := fr) (fr' := fr') (fun t ht => h t (by simp only [List.flatMap_cons, List.mem_append]; exact .inr ht))
    simp only [valL, h1, h2]
theorem guard_same {fr fr' : Nat → Option PV} {g : Option (Nat × Bool)} (h : ∀ t w, g = some (t, w) → fr t = fr' t) : guardV fr g = guardV fr' g := by
  cases g with
  | none => rfl
  | some tw => obtain ⟨t, w⟩ := tw; simp only [guardV, h t w rfl]
theorem getL_same {st st' : Nat → Option SE} : ∀ {l : List Nat}, (∀ r ∈ l, st r = st' r) → getL st l = getL st' l
  | [], _ => rfl
  | a :: l, h => by
    simp only [getL, h a (by simp), getL_same (l := l) (fun r hr => h r (by simp [hr]))]

theorem slotsApart_spec (h : slotsApart x y = true) : (∀ d, x.d = some d → d ∉ y.reads) ∧ (∀ d, x.d = some d → y.d ≠ some d) ∧ (∀ d, y.d = some d → d ∉ x.reads) := by
  unfold slotsApart at h
  refine ⟨fun d hd => ?_, fun d hd => ?_, fun d hd => ?_⟩ <;> simp [hd] at h
  · exact h.1.1
  · exact h.1.2
  · exact h.2

/-- What a log entry says, when it was made. -/
theorem StepP.logAt {G : Bool} {vs : List PV} {cs : List SE} {E : Eff} (H : StepP S true c i x s s' G vs cs E) : s'.log = upd s.log i ⟨x.i.acc vs, E.wr.map (·.1), !E.rm.isEmpty, E.kill, PV.idsL vs ++ (SE.idsL cs ++ (E.val.ids ++ (SE.idsL (E.wr.map (·.2)) ++ SE.idsL E.nw))), PV.njL vs && SE.njL cs, (x.i.acc vs).isEmpty && (E.wr.isEmpty && (E.nw.isEmpty && (E.kill.isEmpty && E.rm.isEmpty)))⟩ := by
  have := H.log
  simp only [logO, Option.some.injEq] at this
  exact this.symm

/-! ### operands and entries, behind a step that has made some headers void -/
theorem valL_nj {fr fr' : Nat → Option PV} {ks : List Nat} : ∀ {l : List A} {vs : List PV}, (∀ t ∈ l.flatMap A.slots, fr' t = (fr t).map (PV.void ks)) → valL fr' l = some vs → (ks = [] ∨ PV.njL vs = true) → valL fr l = some vs
  | [], vs, _, h, _ => h
  | a :: l, vs, hs, h, hn => by
    simp only [valL] at h
    split at h
    · rename_i p ps hp hps
      injection h with h; subst h
      have hn1 : ks = [] ∨ p.nj = true := hn.imp id fun h => by simp only [PV.njL, Bool.and_eq_true] at h; exact h.1
      have hn2 : ks = [] ∨ PV.njL ps = true := hn.imp id fun h => by simp only [PV.njL, Bool.and_eq_true] at h; exact h.2
      have e2 := valL_nj (fun t ht => hs t (by simp only [List.flatMap_cons, List.mem_append]; exact .inr ht)) hps hn2
      have e1 : A.val fr a = some p := by
        cases a with
        | t n =>
          simp only [A.val] at hp ⊢
          rw [hs n (by simp [A.slots])] at hp
          cases hf : fr n with
          | none => rw [hf] at hp; cases hp
          | some q =>
            rw [hf] at hp
            simp only [Option.map_some, Option.some.injEq] at hp
            rcases hn1 with rfl | hn1
            · rw [void_nil] at hp; rw [hp]
            · rw [← hp] at hn1
              rw [← hp, nj_void q hn1]
        | c q => exact hp
      simp only [valL, e1, e2]
    · cases h
theorem valL_free {fr fr' : Nat → Option PV} {ks : List Nat} : ∀ {l : List A} {vs : List PV}, (∀ t ∈ l.flatMap A.slots, fr' t = (fr t).map (PV.void ks)) → valL fr l = some vs → (∀ k ∈ ks, k ∉ PV.idsL vs) → valL fr' l = some vs
  | [], vs, _, h, _ => h
  | a :: l, vs, hs, h, hn => by
    simp only [valL] at h
    split at h
    · rename_i p ps hp hps
      injection h with h; subst h
      simp only [PV.idsL, List.mem_append, not_or] at hn
      have e2 := valL_free (fun t ht => hs t (by simp only [List.flatMap_cons, List.mem_append]; exact .inr ht)) hps (fun k hk => (hn k hk).2)
      have e1 : A.val fr' a = some p := by
        cases a with
        | t n =>
          simp only [A.val] at hp ⊢
          rw [hs n (by simp [A.slots]), hp]
          simp only [Option.map_some, void_free p fun k hk => (hn k hk).1]
        | c q => exact hp
      simp only [valL, e1, e2]
    · cases h
theorem guard_void {fr fr' : Nat → Option PV} {ks : List Nat} {g : Option (Nat × Bool)} (h : ∀ t w, g = some (t, w) → fr' t = (fr t).map (PV.void ks)) : guardV fr' g = guardV fr g := by
  cases g with
  | none => rfl
  | some tw =>
    obtain ⟨t, w⟩ := tw
    simp only [guardV, h t w rfl]
    cases fr t with
    | none => rfl
    | some p =>
      cases p with
      | cnd g q =>
        cases q with
        | os r => by_cases hr : r ∈ ks <;> simp [PV.void, hr]
        | pt r i j => by_cases hr : r ∈ ks <;> simp [PV.void, hr]
        | vw h r lo n => by_cases hr : r ∈ ks <;> simp [PV.void, hr]
        | _ => simp [PV.void]
      | os r => by_cases hr : r ∈ ks <;> simp [PV.void, hr]
      | pt r i j => by_cases hr : r ∈ ks <;> simp [PV.void, hr]
      | vw h r lo n => by_cases hr : r ∈ ks <;> simp [PV.void, hr]
      | _ => simp [PV.void]
theorem getL_nj {st st' : Nat → Option SE} {ks : List Nat} : ∀ {l : List Nat} {cs : List SE}, (∀ r ∈ l, st' r = (st r).map (SE.void ks)) → getL st' l = some cs → (ks = [] ∨ SE.njL cs = true) → getL st l = some cs
  | [], cs, _, h, _ => h
  | r :: l, cs, hs, h, hn => by
    simp only [getL] at h
    split at h
    · rename_i e es he hes
      injection h with h; subst h
      have hn2 : ks = [] ∨ SE.njL es = true := hn.imp id fun h => by
        cases e <;> simp only [SE.njL, Bool.and_eq_true] at h
        · exact h.2
        · exact h
      have e2 := getL_nj (fun r hr => hs r (by simp [hr])) hes hn2
      have e1 : st r = some e := by
        rw [hs r (by simp)] at he
        cases hf : st r with
        | none => rw [hf] at he; cases he
        | some e' =>
          rw [hf] at he
          simp only [Option.map_some, Option.some.injEq] at he
          rcases hn with rfl | hn
          · rw [svoid_nil] at he; rw [he]
          · rw [snj_mem hn (by simp : e ∈ e :: es) e' ks he.symm]
      simp only [getL, e1, e2]
    · cases h
theorem getL_free {st st' : Nat → Option SE} {ks : List Nat} : ∀ {l : List Nat} {cs : List SE}, (∀ r ∈ l, st' r = (st r).map (SE.void ks)) → getL st l = some cs → (∀ k ∈ ks, k ∉ SE.idsL cs) → getL st' l = some cs
  | [], cs, _, h, _ => h
  | r :: l, cs, hs, h, hn => by
    simp only [getL] at h
    split at h
    · rename_i e es he hes
      injection h with h; subst h
      have hn2 : ∀ k ∈ ks, k ∉ SE.idsL es := fun k hk => by
        have := hn k hk
        cases e <;> simp only [SE.idsL, List.mem_append, not_or] at this
        · exact this.2
        · exact this
      have e2 := getL_free (fun r hr => hs r (by simp [hr])) hes hn2
      have e1 : st' r = some e := by
        rw [hs r (by simp), he]
        simp only [Option.map_some, svoid_free hn e (by simp)]
      simp only [getL, e1, e2]
    · cases h

/-- Of two steps, one behind the other, that do not disturb one another, the second may come first. -/
theorem swap2 (hij : i ≠ j) (hA : stepI S true c i x s = some s₁) (hB : stepI S true c' j y s₁ = some s₂) (hid : x.id = 16 * x.d.getD 0) (hap : slotsApart x y = true)
    {eA eB : LogE} (hl : s₂.log i = some eA) (hl' : s₂.log j = some eB) (hrmA : eA.rm = false) (hrmB : eB.rm = false) (hd1 : ∀ r ∈ eA.ws, r ∉ eB.ids) (hd2 : ∀ r ∈ eB.ws, r ∉ eA.ids) (hnew : ∀ r ∈ eB.ids, r / 16 ≠ x.d.getD 0)
    (hk1 : ∀ k ∈ eA.ks, k ∉ eB.ms) (hk2 : ∀ k ∈ eB.ks, k ∉ eA.ms) (hnj : eA.ks = [] ∨ eB.nj = true) :
    ∃ s₁' s₂', stepI S true c' j y s = some s₁' ∧ stepI S true c i x s₁' = some s₂' ∧ Sim s₂ s₂' := by
  obtain ⟨GA, vA, cA, EA, HA⟩ := stepI_parts hA
  obtain ⟨GB, vB, cB, EB, HB⟩ := stepI_parts hB
  obtain ⟨p1, p2, p3⟩ := slotsApart_spec hap
  rw [HB.logAt, upd_ne _ _ hij, HA.logAt, upd_same] at hl
  rw [HB.logAt, upd_same] at hl'
  injection hl with hl; subst hl
  injection hl' with hl'; subst hl'
  simp only [Bool.not_eq_false', List.isEmpty_iff, List.mem_append, not_or, Bool.and_eq_true] at hrmA hrmB hd1 hd2 hnew hk1 hk2 hnj
  have hstA := HA.st; rw [hrmA] at hstA
  have hstB := HB.st; rw [hrmB] at hstB
  obtain ⟨tA1, tA2⟩ := eff_tame HA.eff
  obtain ⟨tB1, tB2⟩ := eff_tame HB.eff
  have hfrA := HA.fr
  have hfrB := HB.fr
  -- keys
  have hdk : ∀ q ∈ EA.wr, q.1 ∉ y.i.acc vB := fun q hq => hd1 _ (List.mem_map.2 ⟨q, hq, rfl⟩)
  have hdk' : ∀ q ∈ EB.wr, q.1 ∉ x.i.acc vA := fun q hq => hd2 _ (List.mem_map.2 ⟨q, hq, rfl⟩)
  have ptA := newSt_pt hstA
  have ptB := newSt_pt hstB
  have frA := newSt_free hstA
  have frB := newSt_free hstB
  have w1 : ∀ r, r ∉ (EA.wr.map (·.1)) → wrLast EA.wr r = none := fun r hr => by
    cases h : wrLast EA.wr r with
    | none => rfl
    | some e => obtain ⟨p, hp, hx⟩ := wrLast_mem h; exact absurd (List.mem_map.2 ⟨p, hp, hx⟩) hr
  have w2 : ∀ r, r ∉ (EB.wr.map (·.1)) → wrLast EB.wr r = none := fun r hr => by
    cases h : wrLast EB.wr r with
    | none => rfl
    | some e => obtain ⟨p, hp, hx⟩ := wrLast_mem h; exact absurd (List.mem_map.2 ⟨p, hp, hx⟩) hr
  have entA : ∀ r ∈ x.i.acc vA, ∃ e, s.st r = some e := fun r hr => by obtain ⟨e, he, _⟩ := getL_mem _ _ HA.ent r hr; exact ⟨e, he⟩
  have entB : ∀ r ∈ y.i.acc vB, ∃ e, s₁.st r = some e := fun r hr => by obtain ⟨e, he, _⟩ := getL_mem _ _ HB.ent r hr; exact ⟨e, he⟩
  -- what B looks at was there before A
  have same1 : ∀ r ∈ y.i.acc vB, s₁.st r = (s.st r).map (SE.void EA.kill) := fun r hr => by
    rw [ptA r, if_neg, w1 r]
    · intro hm
      obtain ⟨q, hq, rfl⟩ := List.mem_map.1 hm
      exact hdk q hq hr
    · intro hx
      have := hnew r hr
      omega
  have someA : ∀ r e, s.st r = some e → ∃ e', s₁.st r = some e' := fun r e he => by
    rw [ptA r]
    by_cases hx : x.id ≤ r ∧ r < x.id + EA.nw.length
    · have := (frA r hx).1
      rw [he] at this; cases this
    · rw [if_neg hx]
      split
      · exact ⟨_, rfl⟩
      · rw [he]; exact ⟨_, rfl⟩
  -- B's new entries are free before A
  have freeB : ∀ r, (y.id ≤ r ∧ r < y.id + EB.nw.length) → s.st r = none ∧ wrLast EB.wr r = none ∧ s₁.st r = none := fun r hr => by
    obtain ⟨h0, hw⟩ := frB r hr
    refine ⟨?_, hw, h0⟩
    cases hs : s.st r with
    | none => rfl
    | some e => obtain ⟨e', he'⟩ := someA r e hs; rw [h0] at he'; cases he'
  obtain ⟨stB, hstB'⟩ := newSt_mk (d := y.id) (k := EB.kill) (wr := EB.wr) (es := EB.nw) (st := s.st) (fun k hk => by
    obtain ⟨h1, h2, _⟩ := freeB (y.id + k) ⟨by omega, by omega⟩
    exact ⟨h1, h2⟩)
  have rdA : ∀ t, t ∈ y.reads → s₁.fr t = (s.fr t).map (PV.void EA.kill) := fun t ht => by
    rw [hfrA]
    cases hxd : x.d with
    | none => rfl
    | some d =>
      have hne : t ≠ d := by rintro rfl; exact p1 t hxd ht
      simp only [upd_ne _ _ hne]; rfl
  obtain ⟨vb0, hvb0, hvbs, hokB⟩ := HB.vals
  obtain ⟨sB1, sB2⟩ := stripI_ids y.i GB vb0
  have evB : (stripI y.i GB vb0).2 = vB := by rw [hvbs]
  rw [evB] at sB1 sB2
  have hvb : valL s.fr y.i.opr = some vb0 := valL_nj (fun t ht => rdA t (by simp only [Ins.reads, List.mem_append]; exact .inl ht)) hvb0 (hnj.imp id fun h => by rw [← sB2]; exact h.1)
  have hcb : getL s.st (y.i.acc vB) = some cB := getL_nj same1 HB.ent (hnj.imp id fun h => h.2)
  obtain ⟨s₁', hB', HB'⟩ := stepI_mk (s₂ := s) (st₂ := stB) HB (guard_void fun t w hg => rdA t (by simp only [Ins.reads, hg, List.mem_append]; right; simp)).symm
    (by rw [hvb, hvb0]) (by rw [hcb, HB.ent]) (by rw [hrmB]; exact hstB') HA.n.symm
  have hs1' : s₁'.st = stB := by have := HB'.st; rw [hrmB, hstB'] at this; injection this with this; exact this.symm
  have ptB' := newSt_pt hstB'
  have same2 : ∀ r ∈ x.i.acc vA, s₁'.st r = (s.st r).map (SE.void EB.kill) := fun r hr => by
    obtain ⟨e, he⟩ := entA r hr
    rw [hs1', ptB' r, if_neg, w2 r]
    · intro hm
      obtain ⟨q, hq, rfl⟩ := List.mem_map.1 hm
      exact hdk' q hq hr
    · intro hx
      rw [(freeB r hx).1] at he; cases he
  have freeA : ∀ r, (x.id ≤ r ∧ r < x.id + EA.nw.length) → s.st r = none ∧ wrLast EA.wr r = none ∧ (∃ e, s₁.st r = some e) := fun r hr => by
    obtain ⟨h0, hw⟩ := frA r hr
    refine ⟨h0, hw, ?_⟩
    rw [ptA r, if_pos hr]
    exact ⟨_, List.getElem?_eq_getElem (by omega)⟩
  have offB : ∀ r, (x.id ≤ r ∧ r < x.id + EA.nw.length) → ¬ (y.id ≤ r ∧ r < y.id + EB.nw.length) ∧ wrLast EB.wr r = none := fun r hr => by
    obtain ⟨h1, h2, e, h3⟩ := freeA r hr
    refine ⟨fun hx => ?_, w2 r fun hm => ?_⟩
    · rw [(freeB r hx).2.2] at h3; cases h3
    · obtain ⟨q, hq, rfl⟩ := List.mem_map.1 hm
      have hm2 := tB1 q hq
      obtain ⟨e', he'⟩ := entB _ hm2
      rw [same1 _ hm2, h1] at he'; cases he'
  obtain ⟨stA, hstA'⟩ := newSt_mk (d := x.id) (k := EA.kill) (wr := EA.wr) (es := EA.nw) (st := s₁'.st) (fun k hk => by
    have hr : x.id ≤ x.id + k ∧ x.id + k < x.id + EA.nw.length := ⟨by omega, by omega⟩
    obtain ⟨h1, h2, _⟩ := freeA _ hr
    obtain ⟨h3, h4⟩ := offB _ hr
    refine ⟨?_, h2⟩
    rw [hs1', ptB' _, if_neg h3, h4, h1]; rfl)
  have hfrB' := HB'.fr
  have rdB : ∀ t, t ∈ x.reads → s₁'.fr t = (s.fr t).map (PV.void EB.kill) := fun t ht => by
    rw [hfrB']
    cases hyd : y.d with
    | none => rfl
    | some d =>
      have hne : t ≠ d := by rintro rfl; exact p3 t hyd ht
      simp only [upd_ne _ _ hne]; rfl
  obtain ⟨va0, hva0, hvas, hokA⟩ := HA.vals
  obtain ⟨sA1, sA2⟩ := stripI_ids x.i GA va0
  have evA : (stripI x.i GA va0).2 = vA := by rw [hvas]
  rw [evA] at sA1 sA2
  have hva : valL s₁'.fr x.i.opr = some va0 := valL_free (fun t ht => rdB t (by simp only [Ins.reads, List.mem_append]; exact .inl ht)) hva0 (fun k hk => by rw [← sA1]; exact (hk2 k hk).1)
  have hca : getL s₁'.st (x.i.acc vA) = some cA := getL_free same2 HA.ent (fun k hk => (hk2 k hk).2.1)
  obtain ⟨s₂', hA', HA'⟩ := stepI_mk (s₂ := s₁') (st₂ := stA) HA (guard_void fun t w hg => rdB t (by simp only [Ins.reads, hg, List.mem_append]; right; simp))
    (by rw [hva, hva0]) (by rw [hca, HA.ent]) (by rw [hrmA]; exact hstA') HB'.n
  have hs2' : s₂'.st = stA := by have := HA'.st; rw [hrmA, hstA'] at this; injection this with this; exact this.symm
  have ptA' := newSt_pt hstA'
  have hfrA' := HA'.fr
  -- what they give names nothing that the other makes void
  have vvA : (if x.g = none then EA.val else PV.cnd GA EA.val).void EB.kill = (if x.g = none then EA.val else PV.cnd GA EA.val) := by
    have := void_free (ks := EB.kill) EA.val fun k hk => (hk2 k hk).2.2.1
    split
    · exact this
    · simp only [PV.void, this]
  have vvB : (if y.g = none then EB.val else PV.cnd GB EB.val).void EA.kill = (if y.g = none then EB.val else PV.cnd GB EB.val) := by
    have := void_free (ks := EA.kill) EB.val fun k hk => (hk1 k hk).2.2.1
    split
    · exact this
    · simp only [PV.void, this]
  have wvA : ∀ r e, wrLast EA.wr r = some e → e.void EB.kill = e := fun r e he => svoid_free (l := EA.wr.map (·.2)) (fun k hk => (hk2 k hk).2.2.2.1) e (wrLast_val he)
  have wvB : ∀ r e, wrLast EB.wr r = some e → e.void EA.kill = e := fun r e he => svoid_free (l := EB.wr.map (·.2)) (fun k hk => (hk1 k hk).2.2.2.1) e (wrLast_val he)
  have nvA : ∀ r : Nat, (EA.nw[r]?).map (SE.void EB.kill) = EA.nw[r]? := fun r => by
    cases h : EA.nw[r]? with
    | none => rfl
    | some e => simp only [Option.map_some, svoid_free (fun k hk => (hk2 k hk).2.2.2.2) e (List.mem_of_getElem? h)]
  have nvB : ∀ r : Nat, (EB.nw[r]?).map (SE.void EA.kill) = EB.nw[r]? := fun r => by
    cases h : EB.nw[r]? with
    | none => rfl
    | some e => simp only [Option.map_some, svoid_free (fun k hk => (hk1 k hk).2.2.2.2) e (List.mem_of_getElem? h)]
  refine ⟨s₁', s₂', hB', hA', ?_, ?_, ?_, ?_, ?_⟩
  · rw [HB.n, HA.n, HA'.n, HB'.n]
  · rw [hfrB, hfrA, hfrA', hfrB']
    have hvv : voidF EB.kill (voidF EA.kill s.fr) = voidF EA.kill (voidF EB.kill s.fr) := by
      funext t; unfold voidF; cases s.fr t with
      | none => rfl
      | some p => simp only [Option.map_some, void_comm]
    have hvu : ∀ (ks : List Nat) (f : Nat → Option PV) (d : Nat) (v : PV), voidF ks (upd f d v) = upd (voidF ks f) d (v.void ks) := fun ks f d v => by
      funext t; unfold voidF; simp only [upd_eq]; split <;> rfl
    cases hxd : x.d with
    | none =>
      cases hyd : y.d with
      | none => exact hvv
      | some e => simp only [hvu, vvB, hvv]
    | some d =>
      cases hyd : y.d with
      | none => simp only [hvu, vvA, hvv]
      | some e =>
        have hne : e ≠ d := by rintro rfl; exact p2 e hxd hyd
        simp only [hvu, vvA, vvB, hvv]
        funext t
        simp only [upd_eq]
        by_cases h1 : t = e
        · subst h1; simp [hne]
        · simp [h1]
  · funext r
    rw [hs2', ptB r, ptA' r, hs1']
    by_cases hxA : x.id ≤ r ∧ r < x.id + EA.nw.length
    · obtain ⟨h3, h4⟩ := offB r hxA
      rw [if_neg h3, if_pos hxA, h4, ptA r, if_pos hxA]
      exact nvA _
    · rw [if_neg hxA, ptA r, if_neg hxA, ptB' r]
      by_cases hxB : y.id ≤ r ∧ r < y.id + EB.nw.length
      · rw [if_pos hxB, if_pos hxB]
        have : wrLast EA.wr r = none := w1 r fun hm => by
          obtain ⟨q, hq, rfl⟩ := List.mem_map.1 hm
          obtain ⟨e, he⟩ := entA _ (tA1 q hq)
          rw [(freeB _ hxB).1] at he; cases he
        rw [this]
        exact (nvB _).symm
      · rw [if_neg hxB, if_neg hxB]
        cases ha : wrLast EA.wr r with
        | none =>
          cases hb : wrLast EB.wr r with
          | none =>
            simp only
            cases s.st r with
            | none => rfl
            | some e => simp only [Option.map_some, svoid_comm]
          | some e => simp only [Option.map_some, wvB r e hb]
        | some e =>
          have : wrLast EB.wr r = none := w2 r fun hm => by
            obtain ⟨p, hp, hpx⟩ := wrLast_mem ha
            obtain ⟨q, hq, hqx⟩ := List.mem_map.1 hm
            exact hdk p hp (by rw [hpx, ← hqx]; exact tB1 q hq)
          rw [this]
          simp only [Option.map_some, wvA r e ha]
  · rw [HB.logAt, HA.logAt, HA'.logAt, HB'.logAt]
    funext t
    simp only [upd_eq]
    by_cases h1 : t = j
    · subst h1; simp [Ne.symm hij]
    · simp [h1]
  · obtain ⟨va', a1', _, a2'⟩ := HA'.vals
    obtain ⟨vb', b1', _, b2'⟩ := HB'.vals
    rw [hva] at a1'; injection a1' with a1'; subst a1'
    rw [hvb] at b1'; injection b1' with b1'; subst b1'
    rw [hokB, hokA, a2', b2']
    constructor
    · rintro ⟨⟨h1, h2, h3⟩, h4, h5⟩; exact ⟨⟨h1, h4, h5⟩, h2, h3⟩
    · rintro ⟨⟨h1, h4, h5⟩, h2, h3⟩; exact ⟨⟨h1, h2, h3⟩, h4, h5⟩
/-- The same, when one of the two neither looks at the store nor changes it. -/
theorem swap3 (hij : i ≠ j) (hA : stepI S true c i x s = some s₁) (hB : stepI S true c' j y s₁ = some s₂) (hap : slotsApart x y = true)
    {eA eB : LogE} (hl : s₂.log i = some eA) (hl' : s₂.log j = some eB) (hpu : eA.pu = true ∨ eB.pu = true)
    (hk1 : ∀ k ∈ eA.ks, k ∉ eB.ms) (hk2 : ∀ k ∈ eB.ks, k ∉ eA.ms) (hnj : eA.ks = [] ∨ eB.nj = true) :
    ∃ s₁' s₂', stepI S true c' j y s = some s₁' ∧ stepI S true c i x s₁' = some s₂' ∧ Sim s₂ s₂' := by
  obtain ⟨GA, vA, cA, EA, HA⟩ := stepI_parts hA
  obtain ⟨GB, vB, cB, EB, HB⟩ := stepI_parts hB
  obtain ⟨p1, p2, p3⟩ := slotsApart_spec hap
  rw [HB.logAt, upd_ne _ _ hij, HA.logAt, upd_same] at hl
  rw [HB.logAt, upd_same] at hl'
  injection hl with hl; subst hl
  injection hl' with hl'; subst hl'
  simp only [List.isEmpty_iff, List.mem_append, not_or, Bool.and_eq_true] at hpu hk1 hk2 hnj
  have hfrA := HA.fr
  have hfrB := HB.fr
  obtain ⟨stB, hstB', hcb0, hca0, hstA'⟩ : ∃ stB, newSt y.id EB.kill EB.rm EB.wr EB.nw s.st = some stB ∧ getL s.st (y.i.acc vB) = getL s₁.st (y.i.acc vB) ∧ getL stB (x.i.acc vA) = getL s.st (x.i.acc vA) ∧ newSt x.id EA.kill EA.rm EA.wr EA.nw stB = some s₂.st := by
    have hsA := HA.st
    have hsB := HB.st
    rcases hpu with ⟨q1, q2, q3, q4, q5⟩ | ⟨q1, q2, q3, q4, q5⟩
    · rw [q2, q3, q4, q5] at hsA ⊢
      have e1 : s.st = s₁.st := by simpa [newSt] using hsA
      refine ⟨s₂.st, by rw [e1]; exact hsB, by rw [e1], by rw [q1]; rfl, rfl⟩
    · rw [q2, q3, q4, q5] at hsB ⊢
      have e1 : s₁.st = s₂.st := by simpa [newSt] using hsB
      refine ⟨s.st, rfl, by rw [q1]; rfl, rfl, by rw [← e1]; exact hsA⟩
  have rdA : ∀ t, t ∈ y.reads → s₁.fr t = (s.fr t).map (PV.void EA.kill) := fun t ht => by
    rw [hfrA]
    cases hxd : x.d with
    | none => rfl
    | some d =>
      have hne : t ≠ d := by rintro rfl; exact p1 t hxd ht
      simp only [upd_ne _ _ hne]; rfl
  obtain ⟨vb0, hvb0, hvbs, hokB⟩ := HB.vals
  obtain ⟨sB1, sB2⟩ := stripI_ids y.i GB vb0
  have evB : (stripI y.i GB vb0).2 = vB := by rw [hvbs]
  rw [evB] at sB1 sB2
  have hvb : valL s.fr y.i.opr = some vb0 := valL_nj (fun t ht => rdA t (by simp only [Ins.reads, List.mem_append]; exact .inl ht)) hvb0 (hnj.imp id fun h => by rw [← sB2]; exact h.1)
  obtain ⟨s₁', hB', HB'⟩ := stepI_mk (s₂ := s) (st₂ := stB) HB (guard_void fun t w hg => rdA t (by simp only [Ins.reads, hg, List.mem_append]; right; simp)).symm
    (by rw [hvb, hvb0]) hcb0 hstB' HA.n.symm
  have hs1' : s₁'.st = stB := by have := HB'.st; rw [hstB'] at this; injection this with this; exact this.symm
  have hfrB' := HB'.fr
  have rdB : ∀ t, t ∈ x.reads → s₁'.fr t = (s.fr t).map (PV.void EB.kill) := fun t ht => by
    rw [hfrB']
    cases hyd : y.d with
    | none => rfl
    | some d =>
      have hne : t ≠ d := by rintro rfl; exact p3 t hyd ht
      simp only [upd_ne _ _ hne]; rfl
  obtain ⟨va0, hva0, hvas, hokA⟩ := HA.vals
  obtain ⟨sA1, sA2⟩ := stripI_ids x.i GA va0
  have evA : (stripI x.i GA va0).2 = vA := by rw [hvas]
  rw [evA] at sA1 sA2
  have hva : valL s₁'.fr x.i.opr = some va0 := valL_free (fun t ht => rdB t (by simp only [Ins.reads, List.mem_append]; exact .inl ht)) hva0 (fun k hk => by rw [← sA1]; exact (hk2 k hk).1)
  obtain ⟨s₂', hA', HA'⟩ := stepI_mk (s₂ := s₁') (st₂ := s₂.st) HA (guard_void fun t w hg => rdB t (by simp only [Ins.reads, hg, List.mem_append]; right; simp))
    (by rw [hva, hva0]) (by rw [hs1']; exact hca0) (by rw [hs1']; exact hstA') HB'.n
  have hs2' : s₂'.st = s₂.st := by have := HA'.st; rw [hs1', hstA'] at this; injection this with this; exact this.symm
  have hfrA' := HA'.fr
  -- what they give names nothing that the other makes void
  have vvA : (if x.g = none then EA.val else PV.cnd GA EA.val).void EB.kill = (if x.g = none then EA.val else PV.cnd GA EA.val) := by
    have := void_free (ks := EB.kill) EA.val fun k hk => (hk2 k hk).2.2.1
    split
    · exact this
    · simp only [PV.void, this]
  have vvB : (if y.g = none then EB.val else PV.cnd GB EB.val).void EA.kill = (if y.g = none then EB.val else PV.cnd GB EB.val) := by
    have := void_free (ks := EA.kill) EB.val fun k hk => (hk1 k hk).2.2.1
    split
    · exact this
    · simp only [PV.void, this]
  refine ⟨s₁', s₂', hB', hA', ?_, ?_, ?_, ?_, ?_⟩
  · rw [HB.n, HA.n, HA'.n, HB'.n]
  · rw [hfrB, hfrA, hfrA', hfrB']
    have hvv : voidF EB.kill (voidF EA.kill s.fr) = voidF EA.kill (voidF EB.kill s.fr) := by
      funext t; unfold voidF; cases s.fr t with
      | none => rfl
      | some p => simp only [Option.map_some, void_comm]
    have hvu : ∀ (ks : List Nat) (f : Nat → Option PV) (d : Nat) (v : PV), voidF ks (upd f d v) = upd (voidF ks f) d (v.void ks) := fun ks f d v => by
      funext t; unfold voidF; simp only [upd_eq]; split <;> rfl
    cases hxd : x.d with
    | none =>
      cases hyd : y.d with
      | none => exact hvv
      | some e => simp only [hvu, vvB, hvv]
    | some d =>
      cases hyd : y.d with
      | none => simp only [hvu, vvA, hvv]
      | some e =>
        have hne : e ≠ d := by rintro rfl; exact p2 e hxd hyd
        simp only [hvu, vvA, vvB, hvv]
        funext t
        simp only [upd_eq]
        by_cases h1 : t = e
        · subst h1; simp [hne]
        · simp [h1]
  · exact hs2'.symm
  · rw [HB.logAt, HA.logAt, HA'.logAt, HB'.logAt]
    funext t
    simp only [upd_eq]
    by_cases h1 : t = j
    · subst h1; simp [Ne.symm hij]
    · simp [h1]
  · obtain ⟨va', a1', _, a2'⟩ := HA'.vals
    obtain ⟨vb', b1', _, b2'⟩ := HB'.vals
    rw [hva] at a1'; injection a1' with a1'; subst a1'
    rw [hvb] at b1'; injection b1' with b1'; subst b1'
    rw [hokB, hokA, a2', b2']
    constructor
    · rintro ⟨⟨h1, h2, h3⟩, h4, h5⟩; exact ⟨⟨h1, h4, h5⟩, h2, h3⟩
    · rintro ⟨⟨h1, h4, h5⟩, h2, h3⟩; exact ⟨⟨h1, h2, h3⟩, h4, h5⟩
end
end Pv
end Go.Proofs.Ytogoplhikmmggaa
