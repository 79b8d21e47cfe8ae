/- THE OPERATIONS, SECOND PART: new variables, stores, slices of the call's own. -/
import Derived.Test.YtogoplhikmmggaaPv5
set_option linter.unusedSimpArgs false
set_option linter.unusedVariables false
namespace Go.Proofs.Ytogoplhikmmggaa
namespace Pv
open Go.RowKit

theorem upd_same {α : Type} (f : Nat → Option α) (k : Nat) (v : α) : upd f k v k = some v := by
  have : Nat.beq k k = true := Nat.beq_refl k
  simp only [upd, this]
theorem upd_ne {α : Type} (f : Nat → Option α) {k i : Nat} (v : α) (h : i ≠ k) : upd f k v i = f i := by
  have : Nat.beq i k = false := by
    rw [Bool.eq_false_iff]; intro hh; exact h (Nat.eq_of_beq_eq_true hh)
  simp only [upd, this]
theorem upd_eq {α : Type} (f : Nat → Option α) (k i : Nat) (v : α) : upd f k v i = if i = k then some v else f i := by
  by_cases h : i = k
  · subst h; rw [upd_same, if_pos rfl]
  · rw [upd_ne f v h, if_neg h]

theorem svoid_nil (e : SE) : e.void [] = e := by cases e <;> simp [SE.void, void_nilL]
theorem voidS_nil (st : Nat → Option SE) : voidS [] st = st := by
  funext t; unfold voidS; cases st t <;> simp [svoid_nil]
theorem rmS_nil (st : Nat → Option SE) : rmS [] st = st := by funext t; simp [rmS]
theorem voidF_nil (fr : Nat → Option PV) : voidF [] fr = fr := by
  funext t; unfold voidF; cases fr t <;> simp [void_nil]
theorem newFr_eq (kill : List Nat) (fr : Nat → Option PV) : newFr kill fr = some (voidF kill fr) := by
  cases kill with
  | nil => simp [newFr, voidF_nil]
  | cons _ _ => rfl
theorem newSt_eq (d : Nat) (kill rm : List Nat) (wr : List (Nat × SE)) (nw : List SE) (st : Nat → Option SE) :
    newSt d kill rm wr nw st = nwS d nw (wrS wr (rmS rm (voidS kill st))) := by
  unfold newSt
  split
  · simp [voidS_nil, rmS_nil, wrS, nwS]
  · simp [voidS_nil, rmS_nil, wrS, nwS, snorm_some]
  · simp only [voidS_nil, rmS_nil, wrS, nwS, snorm_some]
    cases st d <;> rfl
  · rfl

/-- What an instruction's effect says of the real world behind it. -/
structure EffOK (X : Cx) (γ : Gh) (w : World) (st : Nat → Option SE) (E : Eff) (v : Value) (w' : World) (γ' : Gh) (st' : Nat → Option SE) : Prop where
  val : Rep X γ' w' E.val v
  old : ∀ p u, Rep X γ w p u → Rep X γ' w' (p.void E.kill) u
  sto : RepSt X γ' w' st'
  keeps : Keeps γ.own w w'
  own : ∀ b, γ'.own b → γ.own b ∨ w.heap.size ≤ b
  box : ∀ r l, st r = some (.box l) → γ' r = γ r ∧ ∃ l', st' r = some (.box l')

section
variable {P : Program} {X : Cx} {γ : Gh} {w : World} {st : Nat → Option SE}

theorem EffOK.still {E : Eff} {v : Value} (hE : E.still) (hst : RepSt X γ w st) (hv : Rep X γ w E.val v) : EffOK X γ w st E v w γ st := by
  refine ⟨hv, fun p u h => ?_, hst, Keeps.refl _ _, fun b h => .inl h, fun r l h => ⟨rfl, l, h⟩⟩
  rw [hE.2.2.1, void_nil]; exact h

theorem RepS.mono {γ' : Gh} {w' : World} {ge : GE} {e : SE} (h : RepS X γ w ge e) (hr : ∀ p u, Rep X γ w p u → Rep X γ' w' p u)
    (hb : ∀ b, ge.blk = some b → w'.heap[b]? = w.heap[b]?) : RepS X γ' w' ge e := by
  cases e with
  | box cells =>
    obtain ⟨b, T, vs, h1, h2, h3, h4, h5⟩ := h
    exact ⟨b, T, vs, h1, by rw [hb b h1]; exact h2, h3, h4, fun k c u hc hu => hr _ _ (h5 k c u hc hu)⟩
  | row τ e z n f =>
    obtain ⟨vs, h1, h2, h2', h3, h4, h5, h6, h7⟩ := h
    refine ⟨vs, h1, h2, h2', ?_, h4, h5, h6, fun i j c u hi hc hu => hr _ _ (h7 i j c u hi hc hu)⟩
    obtain ⟨hl, ho⟩ := h3
    refine ⟨hl, ?_⟩
    rcases ho with ho | ⟨g, cap, cur, hv, hg, hh, rest⟩
    · exact .inl ho
    · refine .inr ⟨g, cap, cur, hv, hg, ?_, rest⟩
      rw [hb g (by rw [h2, hv]; rfl)]; exact hh

theorem RepS.void {γ' : Gh} {w' : World} {ge : GE} {e : SE} {ks : List Nat} (h : RepS X γ w ge e) (hr : ∀ p u, Rep X γ w p u → Rep X γ' w' (p.void ks) u)
    (hb : ∀ b, ge.blk = some b → w'.heap[b]? = w.heap[b]?) : RepS X γ' w' ge (e.void ks) := by
  cases e with
  | box cells =>
    obtain ⟨b, T, vs, h1, h2, h3, h4, h5⟩ := h
    refine ⟨b, T, vs, h1, by rw [hb b h1]; exact h2, h3, by rw [voidL_length]; exact h4, fun k c u hc hu => ?_⟩
    rw [voidL_get] at hc
    obtain ⟨c0, h0, rfl⟩ := Option.map_eq_some_iff.1 hc
    exact hr _ _ (h5 k c0 u h0 hu)
  | row τ e z n f =>
    obtain ⟨vs, h1, h2, h2', h3, h4, h5, h6, h7⟩ := h
    refine ⟨vs, h1, h2, h2', ?_, h4, h5, h6, fun i j c u hi hc hu => ?_⟩
    · obtain ⟨hl, ho⟩ := h3
      refine ⟨hl, ?_⟩
      rcases ho with ho | ⟨g, cap, cur, hv, hg, hh, rest⟩
      · exact .inl ho
      · refine .inr ⟨g, cap, cur, hv, hg, ?_, rest⟩
        rw [hb g (by rw [h2, hv]; rfl)]; exact hh
    · have := hr _ _ (h7 i j c u hi hc hu)
      rwa [flat_void (h6 i hi c (List.mem_of_getElem? hc))] at this

/-- A new entry; nothing that was there has changed. -/
theorem EffOK.add {E : Eff} {v : Value} {w' : World} {d : Nat} {ge : GE} {e : SE} (hst : RepSt X γ w st) (hX : ∀ b, X.as b ∨ X.ls b → b < w.heap.size)
    (hd : st d = none) (hk : E.kill = []) (hw : Keeps (fun _ => False) w w') (hge : ∀ b, ge.blk = some b → w.heap.size ≤ b ∧ b < w'.heap.size)
    (hs : (∀ p u, Rep X γ w p u → Rep X (upd γ d ge) w' p u) → RepS X (upd γ d ge) w' ge e) (hv : (∀ p u, Rep X γ w p u → Rep X (upd γ d ge) w' p u) → Rep X (upd γ d ge) w' E.val v) :
    EffOK X γ w st E v w' (upd γ d ge) (upd st d e) := by
  have hγd : γ d = none := by
    have := hst.dom d
    rw [hd] at this
    cases hg : γ d with
    | none => rfl
    | some _ => rw [hg] at this; cases this
  have hown : ∀ b, Gh.own (upd γ d ge) b → γ.own b ∨ w.heap.size ≤ b := by
    rintro b ⟨r, g, hg, hb⟩
    by_cases hr : r = d
    · subst hr; rw [upd_same] at hg; injection hg with hg; subst hg; exact .inr (hge b hb).1
    · rw [upd_ne γ _ hr] at hg; exact .inl ⟨r, g, hg, hb⟩
  have hmono : ∀ p u, Rep X γ w p u → Rep X (upd γ d ge) w' p u := fun p u h => h.mono (fun r g hg => by
      rw [upd_ne γ _ (by rintro rfl; rw [hγd] at hg; cases hg)]; exact hg) hown hw.size (fun b _ hb => hw.block b hb (fun h => h))
  refine ⟨hv hmono, fun p u h => by rw [hk, void_nil]; exact hmono p u h, ?_, hw.mono (fun _ _ h => h.elim), hown, fun r l h => ?_⟩
  · refine ⟨fun r => ?_, fun r g e' hg he => ?_, fun r r' g g' b hg hg' hb hb' => ?_, fun b hb => ?_, fun b hb => ?_⟩
    · by_cases hr : r = d
      · subst hr; rw [upd_same, upd_same]; rfl
      · rw [upd_ne γ _ hr, upd_ne st _ hr]; exact hst.dom r
    · by_cases hr : r = d
      · subst hr; rw [upd_same] at hg he; injection hg with hg; injection he with he; subst hg; subst he; exact hs hmono
      · rw [upd_ne γ _ hr] at hg; rw [upd_ne st _ hr] at he
        exact (hst.at_ r g e' hg he).mono hmono fun b hb => hw.block b (hst.lt b ⟨r, g, hg, hb⟩) (fun h => h)
    · by_cases hr : r = d <;> by_cases hr' : r' = d
      · rw [hr, hr']
      · subst hr; rw [upd_same] at hg; rw [upd_ne γ _ hr'] at hg'; injection hg with hg; subst hg
        exact absurd (hst.lt b ⟨r', g', hg', hb'⟩) (by have := (hge b hb).1; omega)
      · subst hr'; rw [upd_same] at hg'; rw [upd_ne γ _ hr] at hg; injection hg' with hg'; subst hg'
        exact absurd (hst.lt b ⟨r, g, hg, hb⟩) (by have := (hge b hb').1; omega)
      · rw [upd_ne γ _ hr] at hg; rw [upd_ne γ _ hr'] at hg'; exact hst.inj r r' g g' b hg hg' hb hb'
    · rcases hown b hb with h | h
      · exact hst.asOff b h
      · exact ⟨fun ha => by have := hX b (.inl ha); omega, fun ha => by have := hX b (.inr ha); omega⟩
    · obtain ⟨r, g, hg, hb⟩ := hb
      by_cases hr : r = d
      · subst hr; rw [upd_same] at hg; injection hg with hg; subst hg; exact (hge b hb).2
      · rw [upd_ne γ _ hr] at hg; exact Nat.lt_of_lt_of_le (hst.lt b ⟨r, g, hg, hb⟩) hw.size
  · have hr : r ≠ d := by rintro rfl; rw [hd] at h; cases h
    rw [upd_ne γ _ hr, upd_ne st _ hr]
    exact ⟨rfl, l, h⟩

/-- An entry is written; its name stands for what it stood for. -/
theorem EffOK.write {E : Eff} {v : Value} {w' : World} {r b : Nat} {ge : GE} {e e0 : SE} (hst : RepSt X γ w st) (hγ : γ r = some ge) (hb : ge.blk = some b) (he0 : st r = some e0)
    (hk : E.kill = []) (hw : Keeps (· = b) w w') (hs : (∀ p u, Rep X γ w p u → Rep X γ w' p u) → RepS X γ w' ge e) (hv : E.val = .junk)
    (hbox : ∀ l, e0 = .box l → ∃ l', e = .box l') : EffOK X γ w st E v w' γ (upd st r e) := by
  have hmono : ∀ p u, Rep X γ w p u → Rep X γ w' p u := fun p u h => h.mono (fun _ _ h => h) (fun _ h => .inl h) hw.size
    (fun x hx hlt => hw.block x hlt (by rintro rfl; exact hx ⟨r, ge, hγ, hb⟩))
  refine ⟨by rw [hv]; exact .junk _, fun p u h => by rw [hk, void_nil]; exact hmono p u h, ?_, hw.mono (by rintro i _ rfl; exact ⟨r, ge, hγ, hb⟩), fun b h => .inl h, fun r' l h => ⟨rfl, ?_⟩⟩
  · refine ⟨fun x => ?_, fun x g e' hg he => ?_, hst.inj, hst.asOff, fun x hx => Nat.lt_of_lt_of_le (hst.lt x hx) hw.size⟩
    · by_cases hx : x = r
      · subst hx; rw [upd_same, hγ]; rfl
      · rw [upd_ne st _ hx]; exact hst.dom x
    · by_cases hx : x = r
      · subst hx
        rw [upd_same] at he; injection he with he; subst he
        rw [hγ] at hg; injection hg with hg; subst hg
        exact hs hmono
      · rw [upd_ne st _ hx] at he
        refine (hst.at_ x g e' hg he).mono hmono fun y hy => hw.block y (hst.lt y ⟨x, g, hg, hy⟩) ?_
        rintro rfl
        exact hx (hst.inj x r g ge y hg hγ hy hb)
  · by_cases hx : r' = r
    · subst hx
      rw [he0] at h; injection h with h
      obtain ⟨l', hl'⟩ := hbox l h
      exact ⟨l', by rw [upd_same, hl']⟩
    · exact ⟨l, by rw [upd_ne st _ hx]; exact h⟩

/-- An entry's slice is appended to: its name stands for another header, perhaps another block. -/
theorem EffOK.app {E : Eff} {v : Value} {w' : World} {r : Nat} {ge ge' : GE} {e e0 : SE} (hst : RepSt X γ w st) (hX : ∀ b, X.as b ∨ X.ls b → b < w.heap.size) (hγ : γ r = some ge) (he0 : st r = some e0)
    (hnb : ∀ l, e0 ≠ .box l) (hk : E.kill = [r]) (hw : Keeps (fun b => ge.blk = some b) w w') (hge : ∀ b, ge'.blk = some b → ge.blk = some b ∨ (w.heap.size ≤ b)) (hlt : ∀ b, ge'.blk = some b → b < w'.heap.size)
    (hs : (∀ p u, Rep X γ w p u → Rep X (upd γ r ge') w' (p.void [r]) u) → RepS X (upd γ r ge') w' ge' e) (hv : Rep X (upd γ r ge') w' E.val v) :
    EffOK X γ w st E v w' (upd γ r ge') (upd (voidS [r] st) r e) := by
  have hown : ∀ b, Gh.own (upd γ r ge') b → γ.own b ∨ w.heap.size ≤ b := by
    rintro b ⟨x, g, hg, hb⟩
    by_cases hx : x = r
    · subst hx; rw [upd_same] at hg; injection hg with hg; subst hg
      exact (hge b hb).imp (fun h => ⟨x, ge, hγ, h⟩) id
    · rw [upd_ne γ _ hx] at hg; exact .inl ⟨x, g, hg, hb⟩
  have hmono : ∀ p u, Rep X γ w p u → Rep X (upd γ r ge') w' (p.void [r]) u := fun p u h => h.move (fun x g hx hg => by
      rw [upd_ne γ _ (by simpa using hx)]; exact hg) hown hw.size (fun b hb hlt => hw.block b hlt (fun h => hb ⟨r, ge, hγ, h⟩))
  refine ⟨hv, fun p u h => by rw [hk]; exact hmono p u h, ?_, hw.mono (fun i _ h => ⟨r, ge, hγ, h⟩), hown, fun r' l h => ?_⟩
  · refine ⟨fun x => ?_, fun x g e' hg he => ?_, fun x x' g g' b hg hg' hb hb' => ?_, fun b hb => ?_, fun b hb => ?_⟩
    · by_cases hx : x = r
      · subst hx; rw [upd_same, upd_same]; rfl
      · rw [upd_ne γ _ hx, upd_ne _ _ hx]; unfold voidS; have := hst.dom x; cases h1 : st x <;> simp_all
    · by_cases hx : x = r
      · subst hx; rw [upd_same] at hg he; injection hg with hg; injection he with he; subst hg; subst he; exact hs hmono
      · rw [upd_ne γ _ hx] at hg; rw [upd_ne _ _ hx] at he
        unfold voidS at he
        obtain ⟨e1, he1, rfl⟩ := Option.map_eq_some_iff.1 he
        refine (hst.at_ x g e1 hg he1).void hmono fun b hb => hw.block b (hst.lt b ⟨x, g, hg, hb⟩) (fun h => hx (hst.inj x r g ge b hg hγ hb h))
    · by_cases hx : x = r <;> by_cases hx' : x' = r
      · rw [hx, hx']
      · subst hx; rw [upd_same] at hg; rw [upd_ne γ _ hx'] at hg'; injection hg with hg; subst hg
        rcases hge b hb with h | h
        · exact absurd (hst.inj x' x g' ge b hg' hγ hb' h) hx'
        · exact absurd (hst.lt b ⟨x', g', hg', hb'⟩) (by omega)
      · subst hx'; rw [upd_same] at hg'; rw [upd_ne γ _ hx] at hg; injection hg' with hg'; subst hg'
        rcases hge b hb' with h | h
        · exact absurd (hst.inj x x' g ge b hg hγ hb h) hx
        · exact absurd (hst.lt b ⟨x, g, hg, hb⟩) (by omega)
      · rw [upd_ne γ _ hx] at hg; rw [upd_ne γ _ hx'] at hg'; exact hst.inj x x' g g' b hg hg' hb hb'
    · rcases hown b hb with h | h
      · exact hst.asOff b h
      · exact ⟨fun ha => by have := hX b (.inl ha); omega, fun ha => by have := hX b (.inr ha); omega⟩
    · obtain ⟨x, g, hg, hb⟩ := hb
      by_cases hx : x = r
      · subst hx; rw [upd_same] at hg; injection hg with hg; subst hg; exact hlt b hb
      · rw [upd_ne γ _ hx] at hg; exact Nat.lt_of_lt_of_le (hst.lt b ⟨x, g, hg, hb⟩) hw.size
  · have hx : r' ≠ r := by rintro rfl; rw [he0] at h; injection h with h; exact hnb l h
    rw [upd_ne γ _ hx, upd_ne _ _ hx]
    refine ⟨rfl, PV.voidL [r] l, ?_⟩
    unfold voidS; rw [h]; rfl

/-- Entries are given up, and a new one is there. -/
theorem EffOK.swap {E : Eff} {v : Value} {w' : World} {d : Nat} {ge : GE} {e : SE} {ids : List Nat} (hst : RepSt X γ w st) (hX : ∀ b, X.as b ∨ X.ls b → b < w.heap.size)
    (hd : rmS ids (voidS ids st) d = none) (hnb : ∀ r ∈ ids, ∀ l, st r ≠ some (.box l)) (hk : E.kill = ids) (hw : Keeps (fun _ => False) w w') (hge : ∀ b, ge.blk = some b → w.heap.size ≤ b ∧ b < w'.heap.size)
    (hs : (∀ p u, Rep X γ w p u → Rep X (upd (fun r => if r ∈ ids then none else γ r) d ge) w' (p.void ids) u) → RepS X (upd (fun r => if r ∈ ids then none else γ r) d ge) w' ge e)
    (hv : Rep X (upd (fun r => if r ∈ ids then none else γ r) d ge) w' E.val v) :
    EffOK X γ w st E v w' (upd (fun r => if r ∈ ids then none else γ r) d ge) (upd (rmS ids (voidS ids st)) d e) := by
  have hγd : d ∉ ids → γ d = none := fun hdi => by
    have := hst.dom d
    unfold rmS voidS at hd
    rw [if_neg hdi] at hd
    cases hs' : st d with
    | none => rw [hs'] at this; cases hg : γ d with
      | none => rfl
      | some _ => rw [hg] at this; cases this
    | some _ => rw [hs'] at hd; cases hd
  have hown : ∀ b, Gh.own (upd (fun r => if r ∈ ids then none else γ r) d ge) b → γ.own b ∨ w.heap.size ≤ b := by
    rintro b ⟨r, g, hg, hb⟩
    by_cases hr : r = d
    · subst hr; rw [upd_same] at hg; injection hg with hg; subst hg; exact .inr (hge b hb).1
    · rw [upd_ne _ _ hr] at hg
      split at hg
      · cases hg
      · exact .inl ⟨r, g, hg, hb⟩
  have hmono : ∀ p u, Rep X γ w p u → Rep X (upd (fun r => if r ∈ ids then none else γ r) d ge) w' (p.void ids) u := fun p u h => h.move (fun r g hr hg => by
      rw [upd_ne _ _ (by rintro rfl; rw [hγd hr] at hg; cases hg), if_neg hr]; exact hg) hown hw.size (fun b _ hb => hw.block b hb (fun h => h))
  refine ⟨hv, fun p u h => by rw [hk]; exact hmono p u h, ?_, hw.mono (fun _ _ h => h.elim), hown, fun r l h => ?_⟩
  · refine ⟨fun r => ?_, fun r g e' hg he => ?_, fun r r' g g' b hg hg' hb hb' => ?_, fun b hb => ?_, fun b hb => ?_⟩
    · by_cases hr : r = d
      · subst hr; rw [upd_same, upd_same]; rfl
      · rw [upd_ne _ _ hr, upd_ne _ _ hr]
        unfold rmS voidS
        split
        · rfl
        · have := hst.dom r; cases h1 : st r <;> simp_all
    · by_cases hr : r = d
      · subst hr; rw [upd_same] at hg he; injection hg with hg; injection he with he; subst hg; subst he; exact hs hmono
      · rw [upd_ne _ _ hr] at hg; rw [upd_ne _ _ hr] at he
        unfold rmS voidS at he
        split at hg
        · cases hg
        · rename_i hni
          rw [if_neg hni] at he
          obtain ⟨e1, he1, rfl⟩ := Option.map_eq_some_iff.1 he
          exact (hst.at_ r g e1 hg he1).void hmono fun b hb => hw.block b (hst.lt b ⟨r, g, hg, hb⟩) (fun h => h)
    · by_cases hr : r = d <;> by_cases hr' : r' = d
      · rw [hr, hr']
      · subst hr; rw [upd_same] at hg; rw [upd_ne _ _ hr'] at hg'; injection hg with hg; subst hg
        split at hg'
        · cases hg'
        · exact absurd (hst.lt b ⟨r', g', hg', hb'⟩) (by have := (hge b hb).1; omega)
      · subst hr'; rw [upd_same] at hg'; rw [upd_ne _ _ hr] at hg; injection hg' with hg'; subst hg'
        split at hg
        · cases hg
        · exact absurd (hst.lt b ⟨r, g, hg, hb⟩) (by have := (hge b hb').1; omega)
      · rw [upd_ne _ _ hr] at hg; rw [upd_ne _ _ hr'] at hg'
        split at hg
        · cases hg
        · split at hg'
          · cases hg'
          · exact hst.inj r r' g g' b hg hg' hb hb'
    · rcases hown b hb with h | h
      · exact hst.asOff b h
      · exact ⟨fun ha => by have := hX b (.inl ha); omega, fun ha => by have := hX b (.inr ha); omega⟩
    · obtain ⟨r, g, hg, hb⟩ := hb
      by_cases hr : r = d
      · subst hr; rw [upd_same] at hg; injection hg with hg; subst hg; exact (hge b hb).2
      · rw [upd_ne _ _ hr] at hg
        split at hg
        · cases hg
        · exact Nat.lt_of_lt_of_le (hst.lt b ⟨r, g, hg, hb⟩) hw.size
  · have hri : r ∉ ids := fun hi => hnb r hi l h
    have hr : r ≠ d := by
      rintro rfl
      have := hst.dom r
      rw [hγd hri, h] at this; cases this
    rw [upd_ne _ _ hr, upd_ne _ _ hr, if_neg hri]
    refine ⟨rfl, PV.voidL ids l, ?_⟩
    unfold rmS voidS; rw [if_neg hri, h]; rfl
end
end Pv
end Go.Proofs.Ytogoplhikmmggaa
