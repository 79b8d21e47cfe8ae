/- THE LIBRARY's functions on texts: general forms of their contracts in the words of pure calls. -/
import Derived.Test.YtdcgnfkkklbckaaGreatDoorZtg
set_option linter.unusedSimpArgs false
set_option linter.unusedVariables false
namespace Go.Proofs.YtdcgnfkkklbckaaGreatDoor
namespace Pv
open Go.RowKit
theorem ownsF_lt {w : World} {e z n : Nat} {v : Value} {vs : List Value} (h : w.ownsRowF 0 e z v n vs) : ∀ b, v.ownBlock = some b → b < w.heap.size := fun b hb => by
  rcases h.2 with ⟨h0, _⟩ | ⟨g, cap, cur, fz, h0, _, h2, _⟩
  · subst h0; cases hb
  · subst h0; injection hb with hb; subst hb
    exact (Array.getElem?_eq_some_iff.1 h2).1
theorem pure_bld {P : Program} {f T e : Nat} {args : List PV} {us : List Value} {val : PV} {rv : Value} {s s' : List UInt8}
    (hfn : ∃ fn, P.funcs[f]? = some fn ∧ fn.body.isSome = true ∧ (fn.name == "runtime.NumGoroutine") = false)
    (hargs : ∀ (X : Cx) (γ : Gh) (w : World) (vals : List Value), RepL X γ w args vals → vals = us) (hval : ∀ (X : Cx) (γ : Gh) (w : World), Rep X γ w val rv)
    (h : ∀ (w : World) (b : Nat) (p v : Value), (p = .pointer none ∨ p = self b) → Held T e b p v s w →
      Calls P f (self b :: us).toArray w fun ev w' => ev = .returned rv ∧ ∃ p' v', (p' = .pointer none ∨ p' = self b) ∧ Held T e b p' v' s' w' ∧ Keeps (fun k => k = b ∨ v.ownBlock = some k) w w' ∧ (∀ g, v'.ownBlock = some g → v.ownBlock = some g ∨ w.heap.size ≤ g)) :
    PureCall P f (.pt 0 0 0 :: args) [.bld T e s] ⟨val, [.bld T e s'], []⟩ := by
  refine ⟨hfn, fun w γ as_ ls vals hst hX hr => ?_⟩
  obtain ⟨v0, us', rfl, hv, hus⟩ := hr.cons_inv
  have := hargs _ _ _ _ hus
  subst this
  obtain ⟨ge, b, hge, hgb, rfl⟩ := pt_inv hv
  obtain ⟨b', p, v, g1, g2, g3, g4, g5, g6⟩ := hst.at_ 0 ge (.bld T e s) hge rfl
  have hb : b' = b := by rw [g1] at hgb; injection hgb
  subst hb
  have hheld : Held T e b' p v s w := ⟨g4, g5, g6⟩
  have hself : Value.pointer (some ⟨b', 0 * ge.z + 0, none⟩) = self b' := by rw [Nat.zero_mul]; rfl
  rw [hself]
  refine (h w b' p v g3 hheld).mono ?_
  rintro ev w' ⟨he, p', v', hp', hH, hk, hold⟩
  have hnone : ∀ r, r ≠ 0 → γ r = none := fun r hr => by
    have := hst.dom r
    rw [List.getElem?_eq_none (by simp; omega)] at this
    simpa using this
  have hblt : b' < w.heap.size := hheld.lt
  let ge' : GE := ⟨some b', v', ge.z⟩
  have hhas : ∀ k, ge'.has k → ge.has k ∨ w.heap.size ≤ k := fun k hk => by
    rcases hk with hk | hk
    · exact .inl (.inl (by injection hk with hk; rw [← hk]; exact g1))
    · exact (hold k hk).imp (fun h => .inr (by rw [g2]; exact h)) id
  have hown : ∀ k, ge.has k → γ.own k := fun k hk => ⟨0, ge, hge, hk⟩
  have hown' : ∀ k, Gh.own (fun r => if r = 0 then some ge' else none) k → γ.own k ∨ w.heap.size ≤ k := fun k ⟨r, g, hr, hb⟩ => by
    by_cases h0 : r = 0
    · simp only [h0, if_true, Option.some.injEq] at hr
      subst hr
      exact (hhas k hb).imp (hown k) id
    · simp only [h0, if_false] at hr; cases hr
  have hkeep : Keeps γ.own w w' := hk.mono fun k _ hk => by
    rcases hk with rfl | hk
    · exact hown _ (.inl g1)
    · exact hown _ (.inr (by rw [g2]; exact hk))
  refine ⟨rv, fun r => if r = 0 then some ge' else none, he, hval _ _ _, ?_, hkeep, fun r hr => ?_, fun r g k hr hb => ?_⟩
  · refine ⟨fun r => ?_, fun r g se hr hs => ?_, fun r r' g g' k hr hr' _ _ => ?_, fun k hk => ?_, fun k ⟨r, g, hr, hb⟩ => ?_, ?_⟩
    rotate_right
    · exact glob_keep hst.glob (fun k hlt hn => hkeep.block k hlt hn) hown'
    · by_cases h : r = 0
      · subst h; rfl
      · simp only [h, if_false, resSt]
        by_cases h2 : newBase ≤ r
        · rw [if_pos h2]; rfl
        · rw [if_neg h2, List.getElem?_eq_none (by simp; omega)]; rfl
    · by_cases h : r = 0
      · subst h
        simp only [if_true, Option.some.injEq] at hr
        subst hr
        have hs' : some (SE.bld T e s') = some se := hs
        injection hs' with hs'
        subst hs'
        exact ⟨b', p', v', rfl, rfl, hp', hH.cells, hH.own, hH.ne⟩
      · simp only [h, if_false] at hr; cases hr
    · by_cases h : r = 0
      · by_cases h' : r' = 0
        · rw [h, h']
        · simp only [h', if_false] at hr'; cases hr'
      · simp only [h, if_false] at hr; cases hr
    · rcases hown' k hk with h | h
      · exact hst.asOff k h
      · exact ⟨fun ha => by have := hX k (.inl ha); omega, fun ha => by have := hX k (.inr ha); omega⟩
    · by_cases h : r = 0
      · simp only [h, if_true, Option.some.injEq] at hr
        subst hr
        rcases hb with hb | hb
        · injection hb with hb; rw [← hb]; exact hH.lt
        · exact ownsF_lt hH.own k hb
      · simp only [h, if_false] at hr; cases hr
  · have h0 : r = 0 := by simp [parN, nbx] at hr; exact hr
    subst h0
    exact ⟨ge', ge, rfl, hge, g1.symm, rfl⟩
  · by_cases h : r = 0
    · simp only [h, if_true, Option.some.injEq] at hr
      subst hr
      rcases hhas k hb with h1 | h1
      · exact .inr (.inr ⟨ge, by rw [h]; exact hge, h1⟩)
      · exact .inl h1
    · simp only [h, if_false] at hr; cases hr
theorem pure_still {P : Program} {f : Nat} {args : List PV} {us : List Value} {val : PV} {rv : Value}
    (hfn : ∃ fn, P.funcs[f]? = some fn ∧ fn.body.isSome = true ∧ (fn.name == "runtime.NumGoroutine") = false)
    (hargs : ∀ (X : Cx) (γ : Gh) (w : World) (vals : List Value), RepL X γ w args vals → vals = us) (hval : ∀ (X : Cx) (γ : Gh) (w : World), Rep X γ w val rv)
    (h : ∀ (w : World), (∀ b p, Pv.glob b = some p → ∃ o, w.heap[b]? = some o ∧ p o) → Calls P f us.toArray w fun ev w' => ev = .returned rv ∧ Keeps (fun _ => False) w w') :
    PureCall P f args [] ⟨val, [], []⟩ := by
  refine ⟨hfn, fun w γ as_ ls vals hst hX hr => ?_⟩
  have := hargs _ _ _ _ hr
  subst this
  refine (h w fun b p hb => (hst.glob b p hb).1).mono ?_
  rintro ev w' ⟨he, hk⟩
  have hnone : ∀ r, γ r = none := fun r => by
    have := hst.dom r
    simpa using this
  have hno : ∀ b, ¬ γ.own b := fun b ⟨r, ge, hr, _⟩ => by rw [hnone r] at hr; cases hr
  have hkeep : Keeps γ.own w w' := hk.mono fun k _ h => h.elim
  refine ⟨rv, γ, he, hval _ _ _, ?_, hkeep, fun r hr => by simp [parN, nbx] at hr, fun r ge b hr hb => by rw [hnone r] at hr; cases hr⟩
  refine ⟨fun r => ?_, fun r ge se hr hs => (by rw [hnone r] at hr; cases hr), fun r r' ge ge' b hr => (by rw [hnone r] at hr; cases hr), fun b hb => absurd hb (hno b), fun b hb => absurd hb (hno b), ?_⟩
  · rw [hnone r]; unfold resSt
    split <;> rfl
  · exact glob_keep hst.glob (fun k hlt hn => hkeep.block k hlt hn) fun b hb => .inl hb
theorem pure_new2 {P : Program} {f : Nat} {args : List PV} {us : List Value} {e z n : Nat} {g : Nat → List PV} {vs : List Value}
    (hfn : ∃ fn, P.funcs[f]? = some fn ∧ fn.body.isSome = true ∧ (fn.name == "runtime.NumGoroutine") = false)
    (hargs : ∀ (X : Cx) (γ : Gh) (w : World) (vals : List Value), RepL X γ w args vals → vals = us) (hrows : ∀ (X : Cx) (γ : Gh) (w : World), RowsRep X γ w 0 z n g vs)
    (h : ∀ (w : World), (∀ b p, Pv.glob b = some p → ∃ o, w.heap[b]? = some o ∧ p o) →
      Calls P f us.toArray w fun ev w' => ∃ v', ev = .returned v' ∧ w'.ownsRow w.heap.size e z v' n vs ∧ Keeps (fun _ => False) w w') :
    PureCall P f args [] ⟨.os 1000000000, [], [.row 0 e z n g]⟩ := by
  refine ⟨hfn, fun w γ as_ ls vals hst hX hr => ?_⟩
  have := hargs _ _ _ _ hr
  subst this
  refine (h w fun b p hb => (hst.glob b p hb).1).mono ?_
  rintro ev w' ⟨v', he, ho, hk⟩
  have ho0 : OwnsG w' e z v' n vs := OwnsG_of ho
  have hone : v'.oneCell' = true := slice_one ho0
  have hblk : ∀ b, v'.ownBlock = some b → w.heap.size ≤ b ∧ b < w'.heap.size := fun b hb => by
    refine ⟨?_, own_lt' ho0 b hb⟩
    rcases ho.2 with ⟨h0, _⟩ | ⟨g, cap, cur, h0, h1, _⟩
    · subst h0; cases hb
    · subst h0; injection hb with hb; subst hb; exact h1
  have hnone : ∀ r, γ r = none := fun r => by
    have := hst.dom r
    simpa using this
  refine ⟨v', fun r => if r = 1000000000 then some ⟨v'.ownBlock, v', z⟩ else none, he, .os _ ⟨v'.ownBlock, v', z⟩ (by simp) hone rfl, ?_, ⟨hk.os, hk.tape, hk.output, hk.size, fun b hb _ => hk.block b hb (fun h => h)⟩, fun r hr => by simp [parN, nbx] at hr, fun r ge b hr hb => ?_⟩
  · refine ⟨fun r => ?_, fun r ge se hr hs => ?_, fun r r' ge ge' b hr hr' _ _ => ?_, fun b ⟨r, ge, hr, hb⟩ => ?_, fun b ⟨r, ge, hr, hb⟩ => ?_, ?_⟩
    rotate_right
    · refine glob_keep hst.glob (fun b hlt _ => hk.block b hlt (fun h => h)) (fun b ⟨r, ge, hr, hb⟩ => ?_)
      by_cases h : r = 1000000000
      · simp only [h, if_true, Option.some.injEq] at hr
        subst hr
        exact .inr (hblk b ((GE.has_row rfl).1 hb)).1
      · simp only [h, if_false] at hr; cases hr
    · by_cases h : r = 1000000000
      · subst h; simp [resSt, newBase]
      · simp only [h, if_false, resSt]
        by_cases h2 : newBase ≤ r
        · have : 1 ≤ r - newBase := by unfold newBase at *; omega
          rw [if_pos h2, List.getElem?_eq_none (by simpa using this)]; rfl
        · rw [if_neg h2]; simp
    · by_cases h : r = 1000000000
      · subst h
        simp only [if_true, Option.some.injEq] at hr
        subst hr
        simp [resSt, newBase] at hs
        subst hs
        exact (hrows _ _ _).repS rfl rfl hone ho0
      · simp only [h, if_false] at hr; cases hr
    · by_cases h : r = 1000000000
      · by_cases h' : r' = 1000000000
        · rw [h, h']
        · simp only [h', if_false] at hr'; cases hr'
      · simp only [h, if_false] at hr; cases hr
    · by_cases h : r = 1000000000
      · simp only [h, if_true, Option.some.injEq] at hr
        subst hr
        have := (hblk b ((GE.has_row rfl).1 hb)).1
        exact ⟨fun ha => by have := hX b (.inl ha); omega, fun ha => by have := hX b (.inr ha); omega⟩
      · simp only [h, if_false] at hr; cases hr
    · by_cases h : r = 1000000000
      · simp only [h, if_true, Option.some.injEq] at hr
        subst hr
        exact (hblk b ((GE.has_row rfl).1 hb)).2
      · simp only [h, if_false] at hr; cases hr
  · by_cases h : r = 1000000000
    · simp only [h, if_true, Option.some.injEq] at hr
      subst hr
      exact .inl (hblk b ((GE.has_row rfl).1 hb)).1
    · simp only [h, if_false] at hr; cases hr
/-! ## texts in a slice -/
def eStr (s : List UInt8) : List PV := [.str s]
def strV (s : List UInt8) : Value := .string ⟨s.toArray⟩
theorem strs_rows {X : Cx} {γ : Gh} {w : World} (l : List (List UInt8)) : RowsRep X γ w 0 1 l.length (fl eStr l) (l.map strV) := by
  refine ⟨by simp, fun u hu => ?_, fun i hi => rfl, fun i hi c hc => ?_, fun i j c u hi hc hu => ?_⟩
  · obtain ⟨n, _, rfl⟩ := List.mem_map.1 hu; rfl
  · have : c = .str (l.getD i default) := by simpa [fl, eStr] using hc
    subst this; rfl
  · have hj : j = 0 := by
      have := (List.getElem?_eq_some_iff.1 hc).1
      simp [fl, eStr] at this; omega
    subst hj
    have : c = .str (l.getD i default) := by
      have h0 : some (PV.str (l.getD i default)) = some c := hc
      injection h0 with h0; exact h0.symm
    subst this
    rw [Nat.mul_one, Nat.add_zero, List.getElem?_map, getD_some hi] at hu
    injection hu with hu; subst hu
    exact .str _
end Pv
end Go.Proofs.YtdcgnfkkklbckaaGreatDoor
