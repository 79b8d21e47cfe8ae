/- TWO STEPS THAT DO NOT DISTURB ONE ANOTHER: their order does not matter. -/
import Derived.Test.YtiknpkadlckmjaaPv15
namespace Go.Proofs.Ytiknpkadlckmjaa
namespace Pv
open Go.RowKit

theorem boxesOf_sub : ∀ {ids : List Nat} {cs : List SE} {bs : List (Nat × SE)}, boxesOf ids cs = some bs → ∀ p ∈ bs, p.1 ∈ ids
  | [], cs, bs, h, p, hp => by simp only [boxesOf, Option.some.injEq] at h; subst h; simp at hp
  | i :: is, [], bs, h, p, hp => by simp only [boxesOf, Option.some.injEq] at h; subst h; simp at hp
  | i :: is, .box l :: cs, bs, h, p, hp => by
    simp only [boxesOf] at h
    split at h
    · rename_i l' rest hl hrest
      injection h with h; subst h
      rcases List.mem_cons.1 hp with rfl | hp
      · simp
      · exact List.mem_cons_of_mem _ (boxesOf_sub hrest p hp)
    · cases h
  | i :: is, .row .. :: cs, bs, h, p, hp => by
    simp only [boxesOf] at h
    exact List.mem_cons_of_mem _ (boxesOf_sub h p hp)

/-- What an instruction writes, it has looked at; it makes few entries. -/
def Eff.tame (E : Eff) (ids : List Nat) : Prop := (∀ p ∈ E.wr, p.1 ∈ ids) ∧ E.nw.length ≤ 16

theorem tame_pure (p : PV) (ids : List Nat) : (Eff.pure p).tame ids := ⟨by simp [Eff.pure], by simp [Eff.pure]⟩
theorem tame_side (p : PV) (q : Prop) (ids : List Nat) : (Eff.side' p q).tame ids := ⟨by simp [Eff.side'], by simp [Eff.side']⟩

theorem biI_tame {w : Bool} {op : BinOp} {k : IntKind} {a b : Int} {E : Eff} {ids : List Nat} (h : biI w op k a b = some E) : E.tame ids := by
  unfold biI at h
  simp only at h
  repeat' (split at h)
  all_goals first
    | (injection h with h; subst h; first | exact tame_pure _ _ | exact tame_side _ _ _)
    | cases h

theorem eSt_tame {n : Nat} {vs : List PV} {cs : List SE} {E : Eff} {ids : List Nat} (h : eSt n vs cs = some E) (hi : ids = (vs.take 1).flatMap PV.top) : E.tame ids := by
  unfold eSt at h
  split at h
  · split at h
    · injection h with h; subst h; subst hi; exact ⟨by simp [PV.top], by simp⟩
    · cases h
  · split at h
    · injection h with h; subst h; subst hi; exact ⟨by simp [PV.top], by simp⟩
    · cases h
  · cases h
theorem eCall_tame {S : FuncId → List PV → List SE → CallRes → Prop} {c : CallRes} {d : Nat} {vs : List PV} {ids : List Nat} {cs : List SE} {E : Eff} (h : eCall S c d vs ids cs = some E) : E.tame ids := by
  unfold eCall at h
  split at h
  · unfold callV callA at h
    split at h
    · rename_i hca
      split at hca
      · split at hca
        · rename_i bs hb
          injection hca with hca
          simp only [Prod.mk.injEq] at hca
          obtain ⟨_, _, rfl⟩ := hca
          split at h
          · rename_i hcond
            injection h with h; subst h
            refine ⟨fun p hp => ?_, by simpa using hcond.1⟩
            have := (List.of_mem_zip (a := p.1) (b := p.2) hp).1
            obtain ⟨q, hq, hqe⟩ := List.mem_map.1 this
            rw [← hqe]
            exact boxesOf_sub hb q hq
          · cases h
        · cases hca
      · cases hca
    · cases h
  · cases h

theorem eff_tame {S : FuncId → List PV → List SE → CallRes → Prop} {c : CallRes} {d : Nat} {i : I} {vs : List PV} {cs : List SE} {E : Eff} (h : eff S c d i vs (i.acc vs) cs = some E) (hk : E.kill = []) : E.tame (i.acc vs) := by
  cases i with
  | st n x v => exact eSt_tame h rfl
  | call f xs => exact eCall_tame h
  | bi w op x y =>
    simp only [eff, eBi, biV] at h
    repeat' (split at h)
    all_goals first
      | exact biI_tame h
      | (injection h with h; subst h; first | exact tame_pure _ _ | exact tame_side _ _ _)
      | cases h
  | un w op x =>
    simp only [eff] at h
    unfold eUn at h
    split at h
    · exact biI_tame h
    · injection h with h; subst h; exact tame_pure _ _
    · cases h
  | pick x y z =>
    simp only [eff] at h
    unfold ePick pickV at h
    repeat' (split at h)
    all_goals first
      | (injection h with h; subst h; first | exact tame_pure _ _ | exact tame_side _ _ _)
      | cases h
  | app e z bytes x y =>
    simp only [eff] at h
    unfold eApp at h
    repeat' (split at h)
    all_goals first
      | (injection h with h; subst h; first | (simp at hk; done) | exact ⟨by simp, by simp⟩)
      | cases h
  | slc z x lo hi =>
    cases lo <;> cases hi
    all_goals
      simp only [eff, Option.isSome, eSlc, eSlc00, eSlc10, eSlc01, eSlc11] at h
      repeat' (split at h)
    all_goals first
      | (injection h with h; subst h; first | exact tame_pure _ _ | exact tame_side _ _ _)
      | cases h
  | slcs x lo hi =>
    cases lo <;> cases hi
    all_goals
      simp only [eff, Option.isSome, eSlcs, eSlcs00, eSlcs10, eSlcs01, eSlcs11] at h
      repeat' (split at h)
    all_goals first
      | (injection h with h; subst h; first | exact tame_pure _ _ | exact tame_side _ _ _)
      | cases h
  | _ =>
    simp only [eff, eMv, eBx, eBd, eBs, eLd, eNc, eBib, eEqa, eCv, eFa, eFd, eIa, eIaa, eIxa, eIxs, eLen, eLens, eMx, eMn, eMks, eEx] at h
    repeat' (split at h)
    all_goals first
      | (injection h with h; subst h; first | exact tame_pure _ _ | exact tame_side _ _ _ | exact ⟨by simp, by simp⟩)
      | cases h

/-! ### the store, point by point -/
def wrLast : List (Nat × SE) → Nat → Option SE
  | [], _ => none
  | (k, e) :: r, x => match wrLast r x with
    | some e' => some e'
    | none => if x = k then some e else none

theorem wrS_pt : ∀ (wr : List (Nat × SE)) (st : Nat → Option SE) (x : Nat), wrS wr st x = match wrLast wr x with
    | some e => some e
    | none => st x
  | [], st, x => rfl
  | (k, e) :: r, st, x => by
    simp only [wrS, wrLast]
    rw [wrS_pt r _ x]
    cases wrLast r x with
    | some e' => rfl
    | none =>
      simp only [upd_eq]
      split <;> rfl
theorem wrLast_mem : ∀ {wr : List (Nat × SE)} {x : Nat} {e : SE}, wrLast wr x = some e → ∃ p ∈ wr, p.1 = x
  | [], x, e, h => by cases h
  | (k, e0) :: r, x, e, h => by
    simp only [wrLast] at h
    split at h
    · rename_i e' he
      obtain ⟨p, hp, hx⟩ := wrLast_mem he
      exact ⟨p, List.mem_cons_of_mem _ hp, hx⟩
    · split at h
      · rename_i hx; exact ⟨(k, e0), by simp, hx.symm⟩
      · cases h
theorem nwS_mk : ∀ (es : List SE) (d : Nat) (st : Nat → Option SE), (∀ k, k < es.length → st (d + k) = none) → ∃ st', nwS d es st = some st'
  | [], d, st, h => ⟨st, rfl⟩
  | e :: es, d, st, h => by
    have h0 := h 0 (by simp)
    rw [Nat.add_zero] at h0
    simp only [nwS, h0]
    refine nwS_mk es (d + 1) _ fun k hk => ?_
    rw [upd_ne st e (by omega), show d + 1 + k = d + (k + 1) from by omega]
    exact h (k + 1) (by simp; omega)
theorem nwS_pt {es : List SE} {d : Nat} {st st' : Nat → Option SE} (h : nwS d es st = some st') (x : Nat) : st' x = if d ≤ x ∧ x < d + es.length then es[x - d]? else st x := by
  obtain ⟨h1, h2⟩ := nwS_get es d st st' h
  split
  · rename_i hx
    obtain ⟨h3, h4⟩ := hx
    have hk : es[x - d]? = some (es[x - d]'(by omega)) := List.getElem?_eq_getElem (by omega)
    have := (h1 _ _ hk).1
    rw [show d + (x - d) = x from by omega] at this
    rw [this, hk]
  · rename_i hx
    exact h2 x (by omega)
theorem nwS_free {es : List SE} {d : Nat} {st st' : Nat → Option SE} (h : nwS d es st = some st') (x : Nat) (hx : d ≤ x ∧ x < d + es.length) : st x = none := by
  obtain ⟨h1, h2⟩ := nwS_get es d st st' h
  have hk : es[x - d]? = some (es[x - d]'(by omega)) := List.getElem?_eq_getElem (by omega)
  have := (h1 _ _ hk).2
  rwa [show d + (x - d) = x from by omega] at this
end Pv
end Go.Proofs.Ytiknpkadlckmjaa
