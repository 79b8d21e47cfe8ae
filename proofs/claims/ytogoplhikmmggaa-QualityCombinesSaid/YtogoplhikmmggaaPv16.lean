/- TWO STEPS THAT DO NOT DISTURB ONE ANOTHER: their order does not matter. -/
import Derived.Test.YtogoplhikmmggaaPv15
set_option linter.unusedSimpArgs false
set_option linter.unusedVariables false
namespace Go.Proofs.Ytogoplhikmmggaa
namespace Pv
open Go.RowKit

theorem boxesOf_sub : ∀ {ids : List Nat} {cs : List SE} {bs : List (Nat × SE)}, boxesOf ids cs = some bs → ∀ p ∈ bs, p.1 ∈ ids
  | [], cs, bs, h, p, hp => by simp only [boxesOf, Option.some.injEq] at h; subst h; simp at hp
  | i :: is, [], bs, h, p, hp => by simp only [boxesOf, Option.some.injEq] at h; subst h; simp at hp
  | i :: is, .box l :: cs, bs, h, p, hp => by
    simp only [boxesOf] at h
    split at h
    · rename_i l' rest hl hrest
      injection h with h; subst h
      rcases List.mem_cons.1 hp with rfl | hp
      · simp
      · exact List.mem_cons_of_mem _ (boxesOf_sub hrest p hp)
    · cases h
  | i :: is, .row .. :: cs, bs, h, p, hp => by
    simp only [boxesOf] at h
    exact List.mem_cons_of_mem _ (boxesOf_sub h p hp)

/-- What an instruction writes, it has looked at; it makes few entries. -/
def Eff.tame (E : Eff) (ids : List Nat) : Prop := (∀ p ∈ E.wr, p.1 ∈ ids) ∧ E.nw.length ≤ 16

theorem tame_pure (p : PV) (ids : List Nat) : (Eff.pure p).tame ids := ⟨by simp [Eff.pure], by simp [Eff.pure]⟩
theorem tame_side (p : PV) (q : Prop) (ids : List Nat) : (Eff.side' p q).tame ids := ⟨by simp [Eff.side'], by simp [Eff.side']⟩

theorem biI_tame {w : Bool} {op : BinOp} {k : IntKind} {a b : Int} {E : Eff} {ids : List Nat} (h : biI w op k a b = some E) : E.tame ids := by
  unfold biI at h
  simp only at h
  repeat' (split at h)
  all_goals first
    | (injection h with h; subst h; first | exact tame_pure _ _ | exact tame_side _ _ _)
    | cases h

theorem eSt_tame {n : Nat} {vs : List PV} {cs : List SE} {E : Eff} {ids : List Nat} (h : eSt n vs cs = some E) (hi : ids = (vs.take 1).flatMap PV.top) : E.tame ids := by
  unfold eSt at h
  split at h
  · split at h
    · injection h with h; subst h; subst hi; exact ⟨by simp [PV.top], by simp⟩
    · cases h
  · split at h
    · injection h with h; subst h; subst hi; exact ⟨by simp [PV.top], by simp⟩
    · cases h
  · cases h
theorem eCall_tame {S : FuncId → List PV → List SE → CallRes → Prop} {c : CallRes} {d : Nat} {vs : List PV} {ids : List Nat} {cs : List SE} {E : Eff} (h : eCall S c d vs ids cs = some E) : E.tame ids := by
  unfold eCall at h
  split at h
  · unfold callV callA at h
    split at h
    · rename_i hca
      split at hca
      · split at hca
        · rename_i bs hb
          injection hca with hca
          simp only [Prod.mk.injEq] at hca
          obtain ⟨_, _, rfl⟩ := hca
          split at h
          · rename_i hcond
            injection h with h; subst h
            refine ⟨fun p hp => ?_, by simpa using hcond.1⟩
            have := (List.of_mem_zip (a := p.1) (b := p.2) hp).1
            obtain ⟨q, hq, hqe⟩ := List.mem_map.1 this
            rw [← hqe]
            exact boxesOf_sub hb q hq
          · cases h
        · cases hca
      · cases hca
    · cases h
  · cases h

theorem eff_tame {S : FuncId → List PV → List SE → CallRes → Prop} {c : CallRes} {d : Nat} {i : I} {vs : List PV} {cs : List SE} {E : Eff} (h : eff S c d i vs (i.acc vs) cs = some E) : E.tame (i.acc vs) := by
  cases i with
  | st n x v => exact eSt_tame h rfl
  | call f xs => exact eCall_tame h
  | bi w op x y =>
    simp only [eff, eBi, biV] at h
    repeat' (split at h)
    all_goals first
      | exact biI_tame h
      | (injection h with h; subst h; first | exact tame_pure _ _ | exact tame_side _ _ _)
      | cases h
  | un w op x =>
    simp only [eff] at h
    unfold eUn at h
    split at h
    · exact biI_tame h
    · injection h with h; subst h; exact tame_pure _ _
    · cases h
  | pick x y z =>
    simp only [eff] at h
    unfold ePick pickV at h
    repeat' (split at h)
    all_goals first
      | (injection h with h; subst h; first | exact tame_pure _ _ | exact tame_side _ _ _)
      | cases h
  | app e z bytes x y =>
    simp only [eff] at h
    unfold eApp at h
    repeat' (split at h)
    all_goals first
      | (injection h with h; subst h; exact ⟨by simp [I.acc, PV.top], by simp⟩)
      | cases h
  | slc z x lo hi =>
    cases lo <;> cases hi
    all_goals
      simp only [eff, Option.isSome, eSlc, eSlc00, eSlc10, eSlc01, eSlc11] at h
      repeat' (split at h)
    all_goals first
      | (injection h with h; subst h; first | exact tame_pure _ _ | exact tame_side _ _ _ | exact ⟨by simp [I.acc, PV.top], by simp⟩)
      | cases h
  | mv x =>
    simp only [eff] at h
    unfold eMv at h
    repeat' (split at h)
    all_goals first
      | (injection h with h; subst h; first | exact tame_pure _ _ | exact ⟨by simp [I.acc, PV.topV], by simp⟩)
      | cases h
  | slcs x lo hi =>
    cases lo <;> cases hi
    all_goals
      simp only [eff, Option.isSome, eSlcs, eSlcs00, eSlcs10, eSlcs01, eSlcs11] at h
      repeat' (split at h)
    all_goals first
      | (injection h with h; subst h; first | exact tame_pure _ _ | exact tame_side _ _ _)
      | cases h
  | _ =>
    simp only [eff, eMv, eBx, eBd, eBs, eLd, eNc, eBib, eEqa, eCv, eFa, eFd, eIa, eIaa, eIxa, eIxs, eLen, eLens, eMx, eMn, eMks, eEx] at h
    repeat' (split at h)
    all_goals first
      | (injection h with h; subst h; first | exact tame_pure _ _ | exact tame_side _ _ _ | exact ⟨by simp, by simp⟩)
      | cases h

/-! ### what is void -/
mutual
theorem void_free {ks : List Nat} : ∀ (p : PV), (∀ k ∈ ks, k ∉ p.ids) → p.void ks = p
  | .os r, h => by
    have : r ∉ ks := fun hr => h r hr (by simp [PV.ids])
    simp [PV.void, this]
  | .vw b r lo n, h => by
    have : r ∉ ks := fun hr => h r hr (by simp [PV.ids])
    simp [PV.void, this]
  | .pt r i j, h => by
    have : r ∉ ks := fun hr => h r hr (by simp [PV.ids])
    simp [PV.void, this]
  | .agg cs, h => by simp only [PV.void, PV.agg.injEq]; exact void_freeL cs (by simpa only [PV.ids] using h)
  | .tup cs, h => by simp only [PV.void, PV.tup.injEq]; exact void_freeL cs (by simpa only [PV.ids] using h)
  | .fn f a b, h => by
    simp only [PV.ids, List.mem_append, not_or] at h
    simp only [PV.void, PV.fn.injEq]
    exact ⟨trivial, void_freeL a fun k hk => (h k hk).1, void_freeL b fun k hk => (h k hk).2⟩
  | .cnd g p, h => by simp only [PV.void, PV.cnd.injEq]; exact ⟨trivial, void_free p (by simpa only [PV.ids] using h)⟩
  | .int _ _, _ => rfl
  | .bool _, _ => rfl
  | .str _, _ => rfl
  | .sl _ _ _ _, _ => rfl
  | .nil _, _ => rfl
  | .rp _ _, _ => rfl
  | .raw _, _ => rfl
  | .junk, _ => rfl
theorem void_freeL {ks : List Nat} : ∀ (l : List PV), (∀ k ∈ ks, k ∉ PV.idsL l) → PV.voidL ks l = l
  | [], _ => rfl
  | p :: ps, h => by
    simp only [PV.idsL, List.mem_append, not_or] at h
    simp only [PV.voidL, List.cons.injEq]
    exact ⟨void_free p fun k hk => (h k hk).1, void_freeL ps fun k hk => (h k hk).2⟩
end
mutual
theorem nj_void {ks : List Nat} : ∀ (p : PV), (p.void ks).nj = true → p.void ks = p
  | .os r, h => by
    by_cases hr : r ∈ ks
    · simp [PV.void, hr, PV.nj] at h
    · simp [PV.void, hr]
  | .vw b r lo n, h => by
    by_cases hr : r ∈ ks
    · simp [PV.void, hr, PV.nj] at h
    · simp [PV.void, hr]
  | .pt r i j, h => by
    by_cases hr : r ∈ ks
    · simp [PV.void, hr, PV.nj] at h
    · simp [PV.void, hr]
  | .agg cs, h => by simp only [PV.void, PV.nj, PV.agg.injEq] at h ⊢; exact nj_voidL cs h
  | .tup cs, h => by simp only [PV.void, PV.nj, PV.tup.injEq] at h ⊢; exact nj_voidL cs h
  | .fn f a b, h => by
    simp only [PV.void, PV.nj, Bool.and_eq_true, PV.fn.injEq] at h ⊢
    exact ⟨trivial, nj_voidL a h.1, nj_voidL b h.2⟩
  | .cnd g p, h => by simp only [PV.void, PV.nj, PV.cnd.injEq] at h ⊢; exact ⟨trivial, nj_void p h⟩
  | .int _ _, _ => rfl
  | .bool _, _ => rfl
  | .str _, _ => rfl
  | .sl _ _ _ _, _ => rfl
  | .nil _, _ => rfl
  | .rp _ _, _ => rfl
  | .raw _, _ => rfl
  | .junk, _ => rfl
theorem nj_voidL {ks : List Nat} : ∀ (l : List PV), PV.njL (PV.voidL ks l) = true → PV.voidL ks l = l
  | [], _ => rfl
  | p :: ps, h => by
    simp only [PV.voidL, PV.njL, Bool.and_eq_true, List.cons.injEq] at h ⊢
    exact ⟨nj_void p h.1, nj_voidL ps h.2⟩
end
mutual
theorem void_comm (a b : List Nat) : ∀ (p : PV), (p.void a).void b = (p.void b).void a
  | .os r => by
    by_cases h1 : r ∈ a <;> by_cases h2 : r ∈ b <;> simp [PV.void, h1, h2]
  | .vw h r lo n => by
    by_cases h1 : r ∈ a <;> by_cases h2 : r ∈ b <;> simp [PV.void, h1, h2]
  | .pt r i j => by
    by_cases h1 : r ∈ a <;> by_cases h2 : r ∈ b <;> simp [PV.void, h1, h2]
  | .agg cs => by simp only [PV.void, void_commL a b cs]
  | .tup cs => by simp only [PV.void, void_commL a b cs]
  | .fn f x y => by simp only [PV.void, void_commL a b x, void_commL a b y]
  | .cnd g p => by simp only [PV.void, void_comm a b p]
  | .int _ _ => rfl
  | .bool _ => rfl
  | .str _ => rfl
  | .sl _ _ _ _ => rfl
  | .nil _ => rfl
  | .rp _ _ => rfl
  | .raw _ => rfl
  | .junk => rfl
theorem void_commL (a b : List Nat) : ∀ (l : List PV), PV.voidL b (PV.voidL a l) = PV.voidL a (PV.voidL b l)
  | [] => rfl
  | p :: ps => by simp only [PV.voidL, void_comm a b p, void_commL a b ps]
end
theorem svoid_comm (a b : List Nat) : ∀ (e : SE), (e.void a).void b = (e.void b).void a
  | .box l => by simp only [SE.void, void_commL a b l]
  | .row .. => rfl
theorem svoid_free {ks : List Nat} : ∀ {l : List SE}, (∀ k ∈ ks, k ∉ SE.idsL l) → ∀ e ∈ l, e.void ks = e
  | .box l' :: l, h, e, he => by
    simp only [SE.idsL, List.mem_append, not_or] at h
    rcases List.mem_cons.1 he with rfl | he
    · simp only [SE.void, SE.box.injEq]; exact void_freeL l' fun k hk => (h k hk).1
    · exact svoid_free (fun k hk => (h k hk).2) e he
  | .row .. :: l, h, e, he => by
    rcases List.mem_cons.1 he with rfl | he
    · rfl
    · exact svoid_free (by simpa only [SE.idsL] using h) e he
theorem snj_mem : ∀ {l : List SE} {e : SE}, SE.njL l = true → e ∈ l → ∀ e' ks, e = SE.void ks e' → e = e'
  | .box l' :: l, e, h, he, e', ks, hv => by
    simp only [SE.njL, Bool.and_eq_true] at h
    rcases List.mem_cons.1 he with rfl | he
    · cases e' with
      | box l2 =>
        simp only [SE.void, SE.box.injEq] at hv ⊢
        rw [hv] at h ⊢
        exact nj_voidL l2 h.1
      | row => simp [SE.void] at hv
    · exact snj_mem h.2 he e' ks hv
  | .row .. :: l, e, h, he, e', ks, hv => by
    rcases List.mem_cons.1 he with rfl | he
    · cases e' with
      | box l2 => simp [SE.void] at hv
      | row => exact hv
    · exact snj_mem (by simpa only [SE.njL] using h) he e' ks hv
theorem strip_ids (G : Bool) : ∀ (l : List PV), PV.idsL (stripL G l).2 = PV.idsL l ∧ PV.njL (stripL G l).2 = PV.njL l
  | [] => ⟨rfl, rfl⟩
  | p :: ps => by
    obtain ⟨h1, h2⟩ := strip_ids G ps
    cases p <;> simp only [stripL, PV.idsL, PV.njL, PV.ids, PV.nj, h1, h2, and_self]
theorem stripI_ids (i : I) (G : Bool) (l : List PV) : PV.idsL (stripI i G l).2 = PV.idsL l ∧ PV.njL (stripI i G l).2 = PV.njL l := by
  have hS : PV.idsL (stripS G l).2 = PV.idsL l ∧ PV.njL (stripS G l).2 = PV.njL l := by
    unfold stripS; split
    · exact ⟨rfl, rfl⟩
    · exact strip_ids G l
  unfold stripI
  split
  · split
    · exact ⟨rfl, rfl⟩
    · exact ⟨rfl, rfl⟩
  · exact hS

/-! ### the store, point by point -/
def wrLast : List (Nat × SE) → Nat → Option SE
  | [], _ => none
  | (k, e) :: r, x => match wrLast r x with
    | some e' => some e'
    | none => if x = k then some e else none

theorem wrS_pt : ∀ (wr : List (Nat × SE)) (st : Nat → Option SE) (x : Nat), wrS wr st x = match wrLast wr x with
    | some e => some e
    | none => st x
  | [], st, x => rfl
  | (k, e) :: r, st, x => by
    simp only [wrS, wrLast]
    rw [wrS_pt r _ x]
    cases wrLast r x with
    | some e' => rfl
    | none =>
      simp only [upd_eq]
      split <;> rfl
theorem wrLast_mem : ∀ {wr : List (Nat × SE)} {x : Nat} {e : SE}, wrLast wr x = some e → ∃ p ∈ wr, p.1 = x
  | [], x, e, h => by cases h
  | (k, e0) :: r, x, e, h => by
    simp only [wrLast] at h
    split at h
    · rename_i e' he
      obtain ⟨p, hp, hx⟩ := wrLast_mem he
      exact ⟨p, List.mem_cons_of_mem _ hp, hx⟩
    · split at h
      · rename_i hx; exact ⟨(k, e0), by simp, hx.symm⟩
      · cases h
theorem wrLast_val : ∀ {wr : List (Nat × SE)} {x : Nat} {e : SE}, wrLast wr x = some e → e ∈ wr.map (·.2)
  | [], x, e, h => by cases h
  | (k, e0) :: r, x, e, h => by
    simp only [wrLast] at h
    split at h
    · rename_i e' he
      injection h with h; subst h
      exact List.mem_cons_of_mem _ (wrLast_val he)
    · split at h
      · injection h with h; subst h; exact List.mem_cons_self
      · cases h
theorem nwS_mk : ∀ (es : List SE) (d : Nat) (st : Nat → Option SE), (∀ k, k < es.length → st (d + k) = none) → ∃ st', nwS d es st = some st'
  | [], d, st, h => ⟨st, rfl⟩
  | e :: es, d, st, h => by
    have h0 := h 0 (by simp)
    rw [Nat.add_zero] at h0
    simp only [nwS, h0]
    refine nwS_mk es (d + 1) _ fun k hk => ?_
    rw [upd_ne st e (by omega), show d + 1 + k = d + (k + 1) from by omega]
    exact h (k + 1) (by simp; omega)
theorem nwS_pt {es : List SE} {d : Nat} {st st' : Nat → Option SE} (h : nwS d es st = some st') (x : Nat) : st' x = if d ≤ x ∧ x < d + es.length then es[x - d]? else st x := by
  obtain ⟨h1, h2⟩ := nwS_get es d st st' h
  split
  · rename_i hx
    obtain ⟨h3, h4⟩ := hx
    have hk : es[x - d]? = some (es[x - d]'(by omega)) := List.getElem?_eq_getElem (by omega)
    have := (h1 _ _ hk).1
    rw [show d + (x - d) = x from by omega] at this
    rw [this, hk]
  · rename_i hx
    exact h2 x (by omega)
theorem newSt_pt {d : Nat} {k : List Nat} {wr : List (Nat × SE)} {es : List SE} {st st' : Nat → Option SE} (h : newSt d k [] wr es st = some st') (x : Nat) : st' x = if d ≤ x ∧ x < d + es.length then es[x - d]? else match wrLast wr x with
    | some e => some e
    | none => (st x).map (SE.void k) := by
  rw [newSt_eq, rmS_nil] at h
  rw [nwS_pt h x, wrS_pt]; rfl
theorem nwS_free {es : List SE} {d : Nat} {st st' : Nat → Option SE} (h : nwS d es st = some st') (x : Nat) (hx : d ≤ x ∧ x < d + es.length) : st x = none := by
  obtain ⟨h1, h2⟩ := nwS_get es d st st' h
  have hk : es[x - d]? = some (es[x - d]'(by omega)) := List.getElem?_eq_getElem (by omega)
  have := (h1 _ _ hk).2
  rwa [show d + (x - d) = x from by omega] at this
theorem newSt_free {d : Nat} {k : List Nat} {wr : List (Nat × SE)} {es : List SE} {st st' : Nat → Option SE} (h : newSt d k [] wr es st = some st') (x : Nat) (hx : d ≤ x ∧ x < d + es.length) : st x = none ∧ wrLast wr x = none := by
  rw [newSt_eq, rmS_nil] at h
  have := nwS_free h x hx
  rw [wrS_pt] at this
  split at this
  · cases this
  · rename_i hw
    refine ⟨?_, hw⟩
    cases hs : st x with
    | none => rfl
    | some e => simp [voidS, hs] at this
theorem newSt_mk {d : Nat} {k : List Nat} {wr : List (Nat × SE)} {es : List SE} {st : Nat → Option SE} (h : ∀ m, m < es.length → st (d + m) = none ∧ wrLast wr (d + m) = none) : ∃ st', newSt d k [] wr es st = some st' := by
  rw [newSt_eq, rmS_nil]
  refine nwS_mk es d _ fun m hm => ?_
  obtain ⟨h1, h2⟩ := h m hm
  rw [wrS_pt, h2]; simp [voidS, h1]
end Pv
end Go.Proofs.Ytogoplhikmmggaa
