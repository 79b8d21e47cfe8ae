/- TWO STEPS THAT DO NOT DISTURB ONE ANOTHER, SECOND PART: the exchange. -/
import Derived.Test.YtiknpkadlckmjaaPv16
namespace Go.Proofs.Ytiknpkadlckmjaa
namespace Pv
open Go.RowKit

section
variable {S : FuncId → List PV → List SE → CallRes → Prop} {c c' : CallRes} {i j : Nat} {x y : Ins} {s s' s₁ s₂ : PS}

theorem okO_mk : ∀ (l : List Prop) (ok : Prop), ∃ ok', okO ok l = some ok'
  | [], ok => ⟨ok, rfl⟩
  | _ :: ps, _ => okO_mk ps _
theorem okG_mk (G : Bool) : ∀ (l : List Prop) (ok : Prop), ∃ ok', okG G ok l = some ok'
  | [], ok => ⟨ok, rfl⟩
  | _ :: ps, _ => okG_mk G ps _

/-- The same step from another state that looks the same to it. -/
theorem stepI_mk {G : Bool} {vs : List PV} {cs : List SE} {E : Eff} (H : StepP S true c i x s s' G vs cs E) {st₂ : Nat → Option SE} (hg : guardV s₂.fr x.g = guardV s.fr x.g) (hv : valL s₂.fr x.i.opr = valL s.fr x.i.opr)
    (hc : getL s₂.st (x.i.acc vs) = getL s.st (x.i.acc vs)) (hst : newSt x.id E.kill E.rm E.wr E.nw s₂.st = some st₂) (hn : s₂.n = s.n) :
    ∃ s₂', stepI S true c i x s₂ = some s₂' ∧ StepP S true c i x s₂ s₂' G vs cs E := by
  obtain ⟨vs0, hv0, hvs, _⟩ := H.vals
  have key : ∃ s₂', stepI S true c i x s₂ = some s₂' := by
    have h1 := H.guard
    have h2 := H.ent
    have h3 := H.eff
    have h5 := H.dlt
    have h6 := H.gd
    rw [← hg] at h1
    rw [← hv] at hv0
    rw [← hc] at h2
    obtain ⟨n, fr, st, ok, log⟩ := s₂
    obtain ⟨od, oid, og, oi⟩ := x
    obtain ⟨val, side, wr, nw, kill, rm⟩ := E
    simp only at *
    unfold stepI
    simp only [h1, hv0]
    rw [hvs]
    simp only [h2, h3, logO]
    cases og with
    | none =>
      obtain ⟨ok', hok⟩ := okO_mk ((stripI oi G vs0).1 ++ side) ok
      simp only [hok, hst, newFr_eq, norm_some]
      cases od with
      | none => exact ⟨_, rfl⟩
      | some d =>
        have := h5 d rfl
        have hb : Nat.blt d n = true := by rw [Nat.blt_eq, hn]; exact this
        simp only [hb]
        exact ⟨_, rfl⟩
    | some g =>
      obtain ⟨e1, e2, e3, e4, e5⟩ := h6 (by simp)
      subst e1 e2 e3 e4
      cases od with
      | none => exact absurd rfl e5
      | some d =>
        obtain ⟨ok', hok⟩ := okG_mk G ((stripI oi G vs0).1 ++ side) ok
        have := h5 d rfl
        have hb : Nat.blt d n = true := by rw [Nat.blt_eq, hn]; exact this
        simp only [hok, norm_some, hb]
        exact ⟨_, rfl⟩
  obtain ⟨s₂', h⟩ := key
  obtain ⟨G', vs', cs', E', H'⟩ := stepI_parts h
  have g1 := H'.guard
  rw [hg, H.guard] at g1; injection g1 with g1; subst g1
  obtain ⟨vs0', hv0', hvs', _⟩ := H'.vals
  rw [hv, hv0] at hv0'; injection hv0' with hv0'; subst hv0'
  have e1 : vs = vs' := by
    have a1 : (stripI x.i G vs0).2 = vs := by rw [hvs]
    have a2 : (stripI x.i G vs0).2 = vs' := by rw [hvs']
    exact a1.symm.trans a2
  subst e1
  have g2 := H'.ent
  rw [hc, H.ent] at g2; injection g2 with g2; subst g2
  have g3 := H'.eff
  rw [H.eff] at g3; injection g3 with g3; subst g3
  exact ⟨s₂', h, H'⟩

/-- The same, but for how what has to be shown is put. -/
structure Sim (s s' : PS) : Prop where
  n : s.n = s'.n
  fr : s.fr = s'.fr
  st : s.st = s'.st
  log : s.log = s'.log
  ok : s.ok ↔ s'.ok

theorem Sim.refl (s : PS) : Sim s s := ⟨rfl, rfl, rfl, rfl, Iff.rfl⟩
theorem Sim.trans (h : Sim s s') (h' : Sim s' s₁) : Sim s s₁ := ⟨h.n.trans h'.n, h.fr.trans h'.fr, h.st.trans h'.st, h.log.trans h'.log, h.ok.trans h'.ok⟩

theorem stepI_sim (h : Sim s s₁) (hs : stepI S true c i x s = some s') : ∃ s₁', stepI S true c i x s₁ = some s₁' ∧ Sim s' s₁' := by
  obtain ⟨G, vs, cs, E, H⟩ := stepI_parts hs
  obtain ⟨s₁', h1, H1⟩ := stepI_mk (s₂ := s₁) (st₂ := s'.st) H (by rw [h.fr]) (by rw [h.fr]) (by rw [h.st]) (by rw [← h.st]; exact H.st) h.n.symm
  refine ⟨s₁', h1, by rw [H.n, H1.n, h.n], by rw [H.fr, H1.fr, h.fr], ?_, ?_, ?_⟩
  · have a := H.st; rw [h.st, H1.st] at a; injection a with a; exact a.symm
  · have a := H.log; rw [h.log, H1.log] at a; injection a with a; exact a.symm
  · obtain ⟨vs0, hv0, _, hok⟩ := H.vals
    obtain ⟨vs0', hv0', _, hok'⟩ := H1.vals
    rw [← h.fr, hv0] at hv0'; injection hv0' with hv0'; subst hv0'
    rw [hok, hok', h.ok]

theorem evL_sim {cr : Nat → CallRes} : ∀ {l : List (Nat × Ins)} {s s' s₁ : PS}, Sim s s₁ → evL S true cr l s = some s' → ∃ s₁', evL S true cr l s₁ = some s₁' ∧ Sim s' s₁'
  | [], s, s', s₁, h, hs => by simp only [evL, Option.some.injEq] at hs; subst hs; exact ⟨s₁, rfl, h⟩
  | (i, x) :: r, s, s', s₁, h, hs => by
    simp only [evL] at hs
    split at hs
    · rename_i s2 h2
      obtain ⟨s2', h3, h4⟩ := stepI_sim h h2
      simp only [evL, h3]
      exact evL_sim h4 hs
    · cases hs

theorem val_same {fr fr' : Nat → Option PV} : ∀ {l : List A}, (∀ t ∈ l.flatMap A.slots, fr t = fr' t) → valL fr l = valL fr' l
  | [], _ => rfl
  | a :: l, h => by
    have h1 : A.val fr a = A.val fr' a := by
      cases a with
      | t n => exact h n (by simp [A.slots])
      | c p => rfl
    have h2 := val_same (l := l) (fr := fr) (fr' := fr') (fun t ht => h t (by simp only [List.flatMap_cons, List.mem_append]; exact .inr ht))
    simp only [valL, h1, h2]
theorem guard_same {fr fr' : Nat → Option PV} {g : Option (Nat × Bool)} (h : ∀ t w, g = some (t, w) → fr t = fr' t) : guardV fr g = guardV fr' g := by
  cases g with
  | none => rfl
  | some tw => obtain ⟨t, w⟩ := tw; simp only [guardV, h t w rfl]
theorem getL_same {st st' : Nat → Option SE} : ∀ {l : List Nat}, (∀ r ∈ l, st r = st' r) → getL st l = getL st' l
  | [], _ => rfl
  | a :: l, h => by
    simp only [getL, h a (by simp), getL_same (l := l) (fun r hr => h r (by simp [hr]))]

theorem slotsApart_spec (h : slotsApart x y = true) : (∀ d, x.d = some d → d ∉ y.reads) ∧ (∀ d, x.d = some d → y.d ≠ some d) ∧ (∀ d, y.d = some d → d ∉ x.reads) := by
  unfold slotsApart at h
  refine ⟨fun d hd => ?_, fun d hd => ?_, fun d hd => ?_⟩ <;> simp [hd] at h
  · exact h.1.1
  · exact h.1.2
  · exact h.2

/-- What a log entry says, when it was made. -/
theorem StepP.logAt {G : Bool} {vs : List PV} {cs : List SE} {E : Eff} (H : StepP S true c i x s s' G vs cs E) : s'.log = upd s.log i ⟨x.i.acc vs, !E.wr.isEmpty, !(E.kill.isEmpty && E.rm.isEmpty)⟩ := by
  have := H.log
  simp only [logO, Option.some.injEq] at this
  exact this.symm

theorem newSt_nk {d : Nat} {wr : List (Nat × SE)} {nw : List SE} (st : Nat → Option SE) : newSt d [] [] wr nw st = nwS d nw (wrS wr st) := by
  rw [newSt_eq, voidS_nil, rmS_nil]

/-- Of two steps, one behind the other, that do not disturb one another, the second may come first. -/
theorem swap2 (hij : i ≠ j) (hA : stepI S true c i x s = some s₁) (hB : stepI S true c' j y s₁ = some s₂) (hid : x.id = 16 * x.d.getD 0) (hap : slotsApart x y = true)
    {ids ids' : List Nat} {wA wB : Bool} (hl : s₂.log i = some ⟨ids, wA, false⟩) (hl' : s₂.log j = some ⟨ids', wB, false⟩) (hdis : (wA = true ∨ wB = true) → ∀ r ∈ ids, r ∉ ids') (hnew : ∀ r ∈ ids', r / 16 ≠ x.d.getD 0) :
    ∃ s₁' s₂', stepI S true c' j y s = some s₁' ∧ stepI S true c i x s₁' = some s₂' ∧ Sim s₂ s₂' := by
  obtain ⟨GA, vA, cA, EA, HA⟩ := stepI_parts hA
  obtain ⟨GB, vB, cB, EB, HB⟩ := stepI_parts hB
  obtain ⟨p1, p2, p3⟩ := slotsApart_spec hap
  rw [HB.logAt, upd_ne _ _ hij, HA.logAt, upd_same] at hl
  rw [HB.logAt, upd_same] at hl'
  simp only [Option.some.injEq, LogE.mk.injEq, Bool.not_eq_false', Bool.and_eq_true, List.isEmpty_iff] at hl hl'
  obtain ⟨rfl, hwA, hkA, hrA⟩ := hl
  obtain ⟨rfl, hwB, hkB, hrB⟩ := hl'
  have hstA := HA.st; rw [hkA, hrA, newSt_nk] at hstA
  have hstB := HB.st; rw [hkB, hrB, newSt_nk] at hstB
  obtain ⟨tA1, tA2⟩ := eff_tame HA.eff hkA
  obtain ⟨tB1, tB2⟩ := eff_tame HB.eff hkB
  have hfrA := HA.fr; rw [hkA, voidF_nil] at hfrA
  have hfrB := HB.fr; rw [hkB, voidF_nil] at hfrB
  -- keys
  have hdk : ∀ q ∈ EA.wr, q.1 ∉ y.i.acc vB := fun q hq => hdis (.inl (by rw [← hwA]; cases hh : EA.wr with
    | nil => rw [hh] at hq; simp at hq
    | cons _ _ => rfl)) _ (tA1 q hq)
  have hdk' : ∀ q ∈ EB.wr, q.1 ∉ x.i.acc vA := fun q hq hm => hdis (.inr (by rw [← hwB]; cases hh : EB.wr with
    | nil => rw [hh] at hq; simp at hq
    | cons _ _ => rfl)) _ hm (tB1 q hq)
  have ptA := nwS_pt hstA
  have ptB := nwS_pt hstB
  have frA := nwS_free hstA
  have frB := nwS_free hstB
  have w1 : ∀ r, r ∉ (EA.wr.map (·.1)) → wrLast EA.wr r = none := fun r hr => by
    cases h : wrLast EA.wr r with
    | none => rfl
    | some e => obtain ⟨p, hp, hx⟩ := wrLast_mem h; exact absurd (List.mem_map.2 ⟨p, hp, hx⟩) hr
  have w2 : ∀ r, r ∉ (EB.wr.map (·.1)) → wrLast EB.wr r = none := fun r hr => by
    cases h : wrLast EB.wr r with
    | none => rfl
    | some e => obtain ⟨p, hp, hx⟩ := wrLast_mem h; exact absurd (List.mem_map.2 ⟨p, hp, hx⟩) hr
  have entA : ∀ r ∈ x.i.acc vA, ∃ e, s.st r = some e := fun r hr => by obtain ⟨e, he, _⟩ := getL_mem _ _ HA.ent r hr; exact ⟨e, he⟩
  have entB : ∀ r ∈ y.i.acc vB, ∃ e, s₁.st r = some e := fun r hr => by obtain ⟨e, he, _⟩ := getL_mem _ _ HB.ent r hr; exact ⟨e, he⟩
  -- what B looks at was there before A
  have same1 : ∀ r ∈ y.i.acc vB, s.st r = s₁.st r := fun r hr => by
    rw [ptA r, if_neg, wrS_pt, w1 r]
    · intro hm
      obtain ⟨q, hq, rfl⟩ := List.mem_map.1 hm
      exact hdk q hq hr
    · intro hx
      have := hnew r hr
      omega
  have someA : ∀ r e, s.st r = some e → ∃ e', s₁.st r = some e' := fun r e he => by
    rw [ptA r]
    by_cases hx : x.id ≤ r ∧ r < x.id + EA.nw.length
    · have := frA r hx
      rw [wrS_pt] at this
      split at this
      · cases this
      · rw [he] at this; cases this
    · rw [if_neg hx, wrS_pt]
      split
      · exact ⟨_, rfl⟩
      · exact ⟨e, he⟩
  -- B's new entries are free before A
  have freeB : ∀ r, (y.id ≤ r ∧ r < y.id + EB.nw.length) → s.st r = none ∧ wrLast EB.wr r = none ∧ s₁.st r = none := fun r hr => by
    have h0 := frB r hr
    rw [wrS_pt] at h0
    split at h0
    · cases h0
    · rename_i hw
      refine ⟨?_, hw, h0⟩
      cases hs : s.st r with
      | none => rfl
      | some e => obtain ⟨e', he'⟩ := someA r e hs; rw [h0] at he'; cases he'
  obtain ⟨stB, hstB'⟩ := nwS_mk EB.nw y.id (wrS EB.wr s.st) (fun k hk => by
    obtain ⟨h1, h2, _⟩ := freeB (y.id + k) ⟨by omega, by omega⟩
    rw [wrS_pt, h2]; exact h1)
  have rdA : ∀ t, t ∈ y.reads → s.fr t = s₁.fr t := fun t ht => by
    rw [hfrA]
    cases hxd : x.d with
    | none => rfl
    | some d =>
      have hne : t ≠ d := by rintro rfl; exact p1 t hxd ht
      simp only [upd_ne _ _ hne]
  obtain ⟨s₁', hB', HB'⟩ := stepI_mk (s₂ := s) (st₂ := stB) HB (guard_same fun t w hg => rdA t (by simp only [Ins.reads, hg, List.mem_append]; right; simp))
    (val_same fun t ht => rdA t (by simp only [Ins.reads, List.mem_append]; exact .inl ht)) (getL_same same1) (by rw [hkB, hrB, newSt_nk]; exact hstB') HA.n.symm
  have hs1' : s₁'.st = stB := by have := HB'.st; rw [hkB, hrB, newSt_nk, hstB'] at this; injection this with this; exact this.symm
  have ptB' := nwS_pt hstB'
  have same2 : ∀ r ∈ x.i.acc vA, s₁'.st r = s.st r := fun r hr => by
    obtain ⟨e, he⟩ := entA r hr
    rw [hs1', ptB' r, if_neg, wrS_pt, w2 r]
    · intro hm
      obtain ⟨q, hq, rfl⟩ := List.mem_map.1 hm
      exact hdk' q hq hr
    · intro hx
      rw [(freeB r hx).1] at he; cases he
  have freeA : ∀ r, (x.id ≤ r ∧ r < x.id + EA.nw.length) → s.st r = none ∧ wrLast EA.wr r = none ∧ (∃ e, s₁.st r = some e) := fun r hr => by
    have h0 := frA r hr
    rw [wrS_pt] at h0
    split at h0
    · cases h0
    · rename_i hw
      refine ⟨h0, hw, ?_⟩
      rw [ptA r, if_pos hr]
      exact ⟨_, List.getElem?_eq_getElem (by omega)⟩
  have offB : ∀ r, (x.id ≤ r ∧ r < x.id + EA.nw.length) → ¬ (y.id ≤ r ∧ r < y.id + EB.nw.length) ∧ wrLast EB.wr r = none := fun r hr => by
    obtain ⟨h1, h2, e, h3⟩ := freeA r hr
    refine ⟨fun hx => ?_, w2 r fun hm => ?_⟩
    · rw [(freeB r hx).2.2] at h3; cases h3
    · obtain ⟨q, hq, rfl⟩ := List.mem_map.1 hm
      have hm2 := tB1 q hq
      obtain ⟨e', he'⟩ := entB _ hm2
      rw [← same1 _ hm2, h1] at he'; cases he'
  obtain ⟨stA, hstA'⟩ := nwS_mk EA.nw x.id (wrS EA.wr s₁'.st) (fun k hk => by
    have hr : x.id ≤ x.id + k ∧ x.id + k < x.id + EA.nw.length := ⟨by omega, by omega⟩
    obtain ⟨h1, h2, _⟩ := freeA _ hr
    obtain ⟨h3, h4⟩ := offB _ hr
    rw [wrS_pt, h2, hs1', ptB' _, if_neg h3, wrS_pt, h4]; exact h1)
  have hfrB' := HB'.fr; rw [hkB, voidF_nil] at hfrB'
  have rdB : ∀ t, t ∈ x.reads → s₁'.fr t = s.fr t := fun t ht => by
    rw [hfrB']
    cases hyd : y.d with
    | none => rfl
    | some d =>
      have hne : t ≠ d := by rintro rfl; exact p3 t hyd ht
      simp only [upd_ne _ _ hne]
  obtain ⟨s₂', hA', HA'⟩ := stepI_mk (s₂ := s₁') (st₂ := stA) HA (guard_same fun t w hg => rdB t (by simp only [Ins.reads, hg, List.mem_append]; right; simp))
    (val_same fun t ht => rdB t (by simp only [Ins.reads, List.mem_append]; exact .inl ht)) (getL_same same2) (by rw [hkA, hrA, newSt_nk]; exact hstA') HB'.n
  have hs2' : s₂'.st = stA := by have := HA'.st; rw [hkA, hrA, newSt_nk, hstA'] at this; injection this with this; exact this.symm
  have hfrA' := HA'.fr; rw [hkA, voidF_nil] at hfrA'
  refine ⟨s₁', s₂', hB', hA', ?_, ?_, ?_, ?_, ?_⟩
  · rw [HB.n, HA.n, HA'.n, HB'.n]
  · rw [hfrB, hfrA, hfrA', hfrB']
    cases hxd : x.d with
    | none => cases hyd : y.d <;> rfl
    | some d =>
      cases hyd : y.d with
      | none => rfl
      | some e =>
        have hne : e ≠ d := by rintro rfl; exact p2 e hxd hyd
        funext t
        simp only [upd_eq]
        by_cases h1 : t = e
        · subst h1; simp [hne]
        · simp [h1]
  · funext r
    rw [hs2', ptB r, nwS_pt hstA' r, hs1']
    by_cases hxA : x.id ≤ r ∧ r < x.id + EA.nw.length
    · obtain ⟨h3, h4⟩ := offB r hxA
      rw [if_neg h3, if_pos hxA, wrS_pt, h4, ptA r, if_pos hxA]
    · rw [if_neg hxA, wrS_pt, wrS_pt, ptA r, if_neg hxA, ptB' r]
      by_cases hxB : y.id ≤ r ∧ r < y.id + EB.nw.length
      · rw [if_pos hxB, if_pos hxB]
        have : wrLast EA.wr r = none := w1 r fun hm => by
          obtain ⟨q, hq, rfl⟩ := List.mem_map.1 hm
          obtain ⟨e, he⟩ := entA _ (tA1 q hq)
          rw [(freeB _ hxB).1] at he; cases he
        rw [this]
      · rw [if_neg hxB, if_neg hxB, wrS_pt, wrS_pt]
        cases ha : wrLast EA.wr r with
        | none => rfl
        | some e =>
          have : wrLast EB.wr r = none := w2 r fun hm => by
            obtain ⟨p, hp, hpx⟩ := wrLast_mem ha
            obtain ⟨q, hq, hqx⟩ := List.mem_map.1 hm
            exact hdk p hp (by rw [hpx, ← hqx]; exact tB1 q hq)
          rw [this]
  · rw [HB.logAt, HA.logAt, HA'.logAt, HB'.logAt]
    funext t
    simp only [upd_eq]
    by_cases h1 : t = j
    · subst h1; simp [Ne.symm hij]
    · simp [h1]
  · obtain ⟨va, a1, _, a2⟩ := HA.vals
    obtain ⟨vb, b1, _, b2⟩ := HB.vals
    obtain ⟨va', a1', _, a2'⟩ := HA'.vals
    obtain ⟨vb', b1', _, b2'⟩ := HB'.vals
    have e1 : va = va' := by
      rw [val_same (fr' := s.fr) fun t ht => rdB t (by simp only [Ins.reads, List.mem_append]; exact .inl ht), a1] at a1'
      injection a1'
    have e2 : vb = vb' := by
      rw [← val_same (fr := s.fr) fun t ht => rdA t (by simp only [Ins.reads, List.mem_append]; exact .inl ht), b1'] at b1
      injection b1 with b1; exact b1.symm
    subst e1 e2
    rw [b2, a2, a2', b2']
    constructor
    · rintro ⟨⟨h1, h2, h3⟩, h4, h5⟩; exact ⟨⟨h1, h4, h5⟩, h2, h3⟩
    · rintro ⟨⟨h1, h4, h5⟩, h2, h3⟩; exact ⟨⟨h1, h2, h3⟩, h4, h5⟩
end
end Pv
end Go.Proofs.Ytiknpkadlckmjaa
