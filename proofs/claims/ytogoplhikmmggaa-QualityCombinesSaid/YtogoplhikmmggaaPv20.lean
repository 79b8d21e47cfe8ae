/- ONE PURE STATE SAYS NO MORE THAN ANOTHER. -/
import Derived.Test.YtogoplhikmmggaaPv19
set_option linter.unusedSimpArgs false
set_option linter.unusedVariables false
namespace Go.Proofs.Ytogoplhikmmggaa
namespace Pv
open Go.RowKit

/-- Rows that are the same below n. -/
def RowEq (n : Nat) (f f' : Nat → List PV) : Prop := ∀ i, i < n → f i = f' i

mutual
/-- The second says no more than the first. 'kp': the entries that are kept; slices of the call's own that are not kept may be read only, from here on. -/
def PLe (st : Nat → Option SE) (kp : Nat → Bool) : PV → PV → Prop
  | .agg cs, q => match q with
    | .agg cs' => PLeL st kp cs cs'
    | .junk => True
    | _ => False
  | .tup cs, q => match q with
    | .tup cs' => PLeL st kp cs cs'
    | .junk => True
    | _ => False
  | .fn f a b, q => match q with
    | .fn f' a' b' => f = f' ∧ PLeL st kp a a' ∧ PLeL st kp b b'
    | .junk => True
    | _ => False
  | .cnd g p, q => match q with
    | .cnd g' p' => g = g' ∧ PLe st kp p p'
    | .junk => True
    | _ => False
  | .int k n, q => match q with
    | .int k' n' => k = k' ∧ n = n'
    | .junk => True
    | _ => False
  | .bool b, q => match q with
    | .bool b' => b = b'
    | .junk => True
    | _ => False
  | .str s, q => match q with
    | .str s' => s = s'
    | .junk => True
    | _ => False
  | .sl τ z n f, q => match q with
    | .sl τ' z' n' f' => τ ≤ τ' ∧ z = z' ∧ n = n' ∧ RowEq n f f'
    | .junk => True
    | _ => False
  | .nil _, q => match q with
    | .nil _ => True
    | .sl _ _ n' _ => n' = 0
    | .junk => True
    | _ => False
  | .os r, q => match q with
    | .os r' => r = r' ∧ kp r = true
    | .sl τ' z' n' f' => kp r = false ∧ (match st r with
      | some (.row τ _ z n f) => τ ≤ τ' ∧ z = z' ∧ n = n' ∧ RowEq n f f'
      | _ => False)
    | .junk => True
    | _ => False
  | .vw _ _ _ _, q => match q with
    | .junk => True
    | _ => False
  | .pt r i j, q => match q with
    | .pt r' i' j' => r = r' ∧ i = i' ∧ j = j' ∧ kp r = true
    | .junk => True
    | _ => False
  | .rp τ cs, q => match q with
    | .rp τ' cs' => τ ≤ τ' ∧ cs = cs'
    | .junk => True
    | _ => False
  | .raw v, q => match q with
    | .raw v' => v = v'
    | .junk => True
    | _ => False
  | .junk, q => match q with
    | .junk => True
    | _ => False
def PLeL (st : Nat → Option SE) (kp : Nat → Bool) : List PV → List PV → Prop
  | [], l => match l with
    | [] => True
    | _ :: _ => False
  | p :: ps, l => match l with
    | [] => False
    | q :: qs => PLe st kp p q ∧ PLeL st kp ps qs
end
def SLe (st : Nat → Option SE) (kp : Nat → Bool) : SE → SE → Prop
  | .box l, e => match e with
    | .box l' => PLeL st kp l l'
    | .row .. => False
  | .row τ e z n f, e2 => match e2 with
    | .row τ' e' z' n' f' => τ ≤ τ' ∧ e = e' ∧ z = z' ∧ n = n' ∧ RowEq n f f'
    | .box _ => False

theorem PLeL_len {st : Nat → Option SE} {kp : Nat → Bool} : ∀ {l l' : List PV}, PLeL st kp l l' → l'.length = l.length
  | [], [], _ => rfl
  | [], _ :: _, h => by simp [PLeL] at h
  | _ :: _, [], h => by simp [PLeL] at h
  | p :: ps, q :: qs, h => by simp only [PLeL] at h; simp [PLeL_len h.2]
theorem PLeL_get {st : Nat → Option SE} {kp : Nat → Bool} : ∀ {l l' : List PV}, PLeL st kp l l' → ∀ (k : Nat) (q : PV), l'[k]? = some q → ∃ p, l[k]? = some p ∧ PLe st kp p q
  | [], [], _, k, q, hk => by simp at hk
  | [], _ :: _, h, k, q, hk => by simp [PLeL] at h
  | _ :: _, [], h, k, q, hk => by simp at hk
  | p :: ps, q' :: qs, h, k, q, hk => by
    simp only [PLeL] at h
    cases k with
    | zero => simp only [List.getElem?_cons_zero, Option.some.injEq] at hk; subst hk; exact ⟨p, rfl, h.1⟩
    | succ k => simpa using PLeL_get h.2 k q (by simpa using hk)

theorem flat_le {st : Nat → Option SE} {kp : Nat → Bool} {c : PV} (h : c.flat = true) {τ τ' : Nat} (ht : τ ≤ τ') : PLe st kp (c.mark τ) (c.mark τ') := by
  cases c with
  | fn f a b => obtain ⟨rfl, rfl⟩ := flat_fn h; simp [PV.mark, PLe, PLeL]
  | _ => first | (simp [PV.flat] at h; done) | simp [PV.mark, PLe, RowEq, ht]

section
variable {P : Program} {X : Cx} {γ γ' γk : Gh} {w : World} {st : Nat → Option SE} {kp : Nat → Bool}

theorem Rep.own_less {p : PV} {v : Value} (h : Rep X γ w p v) (ho : ∀ b, γ'.own b → γ.own b) : p.flat = true → Rep X γ' w p v := by
  induction h with
  | int k n => intro _; exact .int k n
  | bool b => intro _; exact .bool b
  | str s => intro _; exact .str s
  | sl τ z n f ad cap vs hcap hz hf hb h ih =>
    intro _
    refine .sl τ z n f ad cap vs hcap hz hf (fun hn => ?_) (fun i j c hi hc => ih i j c hi hc (flat_mark (hf i hi c (List.mem_of_getElem? hc)) τ))
    obtain ⟨a, rfl, hm, hlt, hc⟩ := hb hn
    exact ⟨a, rfl, ⟨fun h => hm.1 (ho _ h), hm.2⟩, hlt, hc⟩
  | fn f first caps vs us hl hl' h h' ih ih' =>
    intro hf
    obtain ⟨rfl, rfl⟩ := flat_fn hf
    exact (Rep.fn (X := X) (γ := γ) (w := w) f [] [] vs us hl hl' h h').fn_nil
  | _ => intro hf; simp [PV.flat] at hf

theorem Rep.le {p : PV} {v : Value} (h : Rep X γ w p v) (hst : RepSt X γ w st) (hlo : ∀ r ge b τ e z n f, γ r = some ge → st r = some (.row τ e z n f) → ge.blk = some b → X.lo ≤ b)
    (hk1 : ∀ r ge, γ r = some ge → kp r = true → γk r = some ge) (hk2 : ∀ r ge, γk r = some ge → γ r = some ge ∧ kp r = true) : ∀ q, PLe st kp p q → Rep X γk w q v := by
  have hown : ∀ b, γk.own b → γ.own b := fun b ⟨r, ge, hr, hb⟩ => ⟨r, ge, (hk2 r ge hr).1, hb⟩
  have hlie : ∀ τ τ' b, τ ≤ τ' → mayLie X γ τ b → mayLie X γk τ' b := fun τ τ' b ht hm => ⟨fun h => hm.1 (hown b h), (hm.mono ht).2⟩
  have hrow : ∀ {τ τ' z n : Nat} {f f' : Nat → List PV} {v : Value} {ad : Option Addr} {cap : Nat} {vs : Nat → Value}, τ ≤ τ' → RowEq n f f' → (∀ i, i < n → (f i).length = z) → (∀ i, i < n → ∀ c ∈ f i, c.flat = true) → n ≤ cap →
      (0 < n → ∃ a, ad = some a ∧ mayLie X γk τ' a.block ∧ a.block < w.heap.size ∧ ∀ k, k < n * z → w.cell? (a.add k) = some (vs k)) →
      (∀ (i j : Nat) (c : PV), i < n → (f i)[j]? = some c → Rep X γk w (c.mark τ') (vs (i * z + j))) → Rep X γk w (.sl τ' z n f') (.slice ad n cap) := by
    intro τ τ' z n f f' v ad cap vs ht hrw hz hf hcap hb h
    refine .sl τ' z n f' ad cap vs hcap (fun i hi => by rw [← hrw i hi]; exact hz i hi) (fun i hi c hc => hf i hi c (by rw [hrw i hi]; exact hc)) hb (fun i j c hi hc => h i j c hi (by rw [hrw i hi]; exact hc))
  induction h with
  | int k n => intro q hq; unfold PLe at hq; split at hq <;> first | (obtain ⟨rfl, rfl⟩ := hq; exact .int _ _) | exact .junk _ | exact hq.elim
  | bool b => intro q hq; unfold PLe at hq; split at hq <;> first | (subst hq; exact .bool _) | exact .junk _ | exact hq.elim
  | str s => intro q hq; unfold PLe at hq; split at hq <;> first | (subst hq; exact .str _) | exact .junk _ | exact hq.elim
  | agg cs vs hl hc h ih =>
    intro q hq; unfold PLe at hq; split at hq
    · refine .agg _ vs (by rw [PLeL_len hq]; exact hl) hc fun k c u hk hu => ?_
      obtain ⟨p, hp, hle⟩ := PLeL_get hq k c hk
      exact ih k p u hp hu c hle
    · exact .junk _
    · exact hq.elim
  | tup cs vs hl h ih =>
    intro q hq; unfold PLe at hq; split at hq
    · refine .tup _ vs (by rw [PLeL_len hq]; exact hl) fun k c u hk hu => ?_
      obtain ⟨p, hp, hle⟩ := PLeL_get hq k c hk
      exact ih k p u hp hu c hle
    · exact .junk _
    · exact hq.elim
  | sl τ z n f ad cap vs hcap hz hf hb h ih =>
    intro q hq; unfold PLe at hq; split at hq
    · obtain ⟨ht, rfl, rfl, hrw⟩ := hq
      refine hrow (v := .slice ad n cap) ht hrw hz hf hcap (fun hn => ?_) (fun i j c hi hc => ih i j c hi hc _ (flat_le (hf i hi c (List.mem_of_getElem? hc)) ht))
      obtain ⟨a, rfl, hm, hlt, hc⟩ := hb hn
      exact ⟨a, rfl, hlie _ _ _ ht hm, hlt, hc⟩
    · exact .junk _
    · exact hq.elim
  | nil z =>
    intro q hq; unfold PLe at hq; split at hq
    · exact .nil _
    · subst hq; exact .sl _ _ 0 _ none 0 (fun _ => undef) (Nat.le_refl _) (fun i hi => by omega) (fun i hi => by omega) (fun hi => by omega) (fun i j c hi => by omega)
    · exact .junk _
    · exact hq.elim
  | os r ge hg h1 =>
    intro q hq; unfold PLe at hq; split at hq
    · obtain ⟨rfl, hk⟩ := hq
      exact .os _ ge (hk1 _ _ hg hk) h1
    · rename_i τ' z' n' f'
      obtain ⟨hk, hq⟩ := hq
      split at hq
      · rename_i τ e z n f hs
        obtain ⟨ht, rfl, rfl, hrw⟩ := hq
        obtain ⟨vs, b1, b2, b3, ho, hr⟩ := (hst.at_ _ _ _ hg hs).rows
        obtain ⟨ad, cap, hv, hnc, _, hor⟩ := own_slice ho
        rw [hv]
        have hget : ∀ k, k < n * z → vs[k]? = some (vs.getD k undef) := fun k hk => by
          have : k < vs.length := by rw [hr.len]; exact hk
          simp [List.getD_eq_getElem?_getD, this]
        refine hrow (v := .slice ad n cap) (vs := fun k => vs.getD k undef) ht hrw hr.hz hr.hf hnc (fun hn => ?_) (fun i j c hi hc => ?_)
        · rcases hor with h0 | ⟨g, rfl, hlt, hbl⟩
          · omega
          · refine ⟨_, rfl, ⟨fun hown' => ?_, .inl (hlo r ge g _ _ _ _ _ hg hs (by rw [b2, hbl]))⟩, hlt, fun k hk => own_cells ho hv rfl k _ (hget k hk)⟩
            obtain ⟨r', ge', hr', hb'⟩ := hown'
            obtain ⟨e1, e2⟩ := hk2 r' ge' hr'
            have := hst.inj r r' ge ge' g hg e1 (by rw [b2, hbl]) hb'
            subst this
            rw [hk] at e2; cases e2
        · have hj : j < z := by rw [← hr.hz i hi]; exact (List.getElem?_eq_some_iff.1 hc).1
          have := hr.rep i j c _ hi hc (hget _ (idx_lt hi hj))
          have hfl := hr.hf i hi c (List.mem_of_getElem? hc)
          have h2 := this.mark_up τ' (Nat.le_trans (tau_mark c _) ht)
          rw [mark_mark] at h2
          exact h2.own_less hown (flat_mark hfl _)
      · exact hq.elim
    · exact .junk _
    · exact hq.elim
  | pt r i j ge b hg hb =>
    intro q hq; unfold PLe at hq; split at hq
    · obtain ⟨rfl, rfl, rfl, hk⟩ := hq
      exact .pt _ _ _ ge b (hk1 _ _ hg hk) hb
    · exact .junk _
    · exact hq.elim
  | rp τ cs a vs hf hb hc h ih =>
    intro q hq; unfold PLe at hq; split at hq
    · obtain ⟨ht, rfl⟩ := hq
      refine .rp _ _ a vs hf (fun hn => ?_) hc (fun k c hk => ih k c hk _ (flat_le (hf c (List.mem_of_getElem? hk)) ht))
      obtain ⟨hm, hlt⟩ := hb hn
      exact ⟨hlie _ _ _ ht hm, hlt⟩
    · exact .junk _
    · exact hq.elim
  | fn f first caps vs us hl hl' h h' ih ih' =>
    intro q hq; unfold PLe at hq; split at hq
    · obtain ⟨rfl, q1, q2⟩ := hq
      refine .fn _ _ _ vs us (by rw [PLeL_len q1]; exact hl) (by rw [PLeL_len q2]; exact hl') (fun k c u hk hu => ?_) (fun k c u hk hu => ?_)
      · obtain ⟨p, hp, hle⟩ := PLeL_get q1 k c hk
        exact ih k p u hp hu c hle
      · obtain ⟨p, hp, hle⟩ := PLeL_get q2 k c hk
        exact ih' k p u hp hu c hle
    · exact .junk _
    · exact hq.elim
  | vw h r lo n ge ad m cap hg hh hle h0 => intro q hq; unfold PLe at hq; split at hq <;> first | exact .junk _ | exact hq.elim
  | raw v h1 => intro q hq; unfold PLe at hq; split at hq <;> first | (subst hq; exact .raw _ h1) | exact .junk _ | exact hq.elim
  | cnd g p v h hu ih =>
    intro q hq; unfold PLe at hq; split at hq
    · obtain ⟨rfl, hq⟩ := hq
      exact .cnd _ _ _ (fun hg => ih hg _ hq) hu
    · exact .junk _
    · exact hq.elim
  | junk v => intro q hq; unfold PLe at hq; split at hq <;> first | exact .junk _ | exact hq.elim

theorem RepL.le {l l' : List PV} {us : List Value} (h : RepL X γ w l us) (hst : RepSt X γ w st) (hlo : ∀ r ge b τ e z n f, γ r = some ge → st r = some (.row τ e z n f) → ge.blk = some b → X.lo ≤ b)
    (hk1 : ∀ r ge, γ r = some ge → kp r = true → γk r = some ge) (hk2 : ∀ r ge, γk r = some ge → γ r = some ge ∧ kp r = true) (hl : PLeL st kp l l') : RepL X γk w l' us :=
  ⟨by rw [PLeL_len hl]; exact h.1, fun k c u hk hu => by
    obtain ⟨p, hp, hle⟩ := PLeL_get hl k c hk
    exact (h.2 k p u hp hu).le hst hlo hk1 hk2 c hle⟩

mutual
theorem Rep.unren {ρ : Nat → Nat} (ho : ∀ b, γ'.own b → γ.own b) : ∀ (p : PV) (v : Value), Rep X γ w (p.ren ρ) v → (∀ r ∈ p.ids, ∀ ge, γ (ρ r) = some ge → γ' r = some ge) → Rep X γ' w p v
  | .int k n, v, h, hi => by simp only [PV.ren] at h; cases h.int_inv; exact .int _ _
  | .bool b, v, h, hi => by simp only [PV.ren] at h; cases h.bool_inv; exact .bool _
  | .str s, v, h, hi => by simp only [PV.ren] at h; cases h.str_inv; exact .str _
  | .agg cs, v, h, hi => by
    simp only [PV.ren] at h
    obtain ⟨vs, rfl, hr, h1⟩ := h.agg_inv
    have := RepL.unren ho cs vs hr (fun r hr => hi r (by simpa [PV.ids] using hr))
    exact .agg _ _ this.1 h1 this.2
  | .tup cs, v, h, hi => by
    simp only [PV.ren] at h
    obtain ⟨vs, rfl, hr⟩ := h.tup_inv
    have := RepL.unren ho cs vs hr (fun r hr => hi r (by simpa [PV.ids] using hr))
    exact .tup _ _ this.1 this.2
  | .sl τ z n f, v, h, hi => by simp only [PV.ren] at h; exact h.own_less ho rfl
  | .nil z, v, h, hi => by simp only [PV.ren] at h; cases h.nil_inv; exact .nil _
  | .os r, v, h, hi => by
    simp only [PV.ren] at h
    cases h with
    | os _ ge hg h1 => exact .os _ ge (hi r (by simp [PV.ids]) ge hg) h1
  | .vw b r lo n, v, h, hi => by
    simp only [PV.ren] at h
    cases h with
    | vw _ _ _ _ ge ad m cap hg hh hle h0 => exact .vw _ _ _ _ ge ad m cap (hi r (by simp [PV.ids]) ge hg) hh hle h0
  | .pt r i j, v, h, hi => by
    simp only [PV.ren] at h
    cases h with
    | pt _ _ _ ge b hg hb => exact .pt _ _ _ ge b (hi r (by simp [PV.ids]) ge hg) hb
  | .rp τ cs, v, h, hi => by
    simp only [PV.ren] at h
    cases h with
    | rp _ _ a vs hf hb hc h =>
      refine .rp _ _ a vs hf (fun hn => ?_) hc (fun k c hk => (h k c hk).own_less ho (flat_mark (hf c (List.mem_of_getElem? hk)) _))
      obtain ⟨hm, hlt⟩ := hb hn
      exact ⟨⟨fun h => hm.1 (ho _ h), hm.2⟩, hlt⟩
  | .fn f a b, v, h, hi => by
    simp only [PV.ren] at h
    cases h with
    | fn _ _ _ vs us hl hl' h h' =>
      have h1 := RepL.unren ho a vs ⟨hl, h⟩ (fun r hr => hi r (by simp [PV.ids, hr]))
      have h2 := RepL.unren ho b us ⟨hl', h'⟩ (fun r hr => hi r (by simp [PV.ids, hr]))
      exact .fn _ _ _ vs us h1.1 h2.1 h1.2 h2.2
  | .raw u, v, h, hi => by
    simp only [PV.ren] at h
    cases h with | raw _ h1 => exact .raw _ h1
  | .cnd g p, v, h, hi => by
    simp only [PV.ren] at h
    cases h with
    | cnd _ _ _ h hu => exact .cnd _ _ _ (fun hg => Rep.unren ho p v (h hg) (fun r hr => hi r (by simpa [PV.ids] using hr))) hu
  | .junk, v, h, hi => .junk _
theorem RepL.unren {ρ : Nat → Nat} (ho : ∀ b, γ'.own b → γ.own b) : ∀ (l : List PV) (us : List Value), RepL X γ w (PV.renL ρ l) us → (∀ r ∈ PV.idsL l, ∀ ge, γ (ρ r) = some ge → γ' r = some ge) → RepL X γ' w l us
  | [], us, h, hi => by
    simp only [PV.renL] at h
    exact ⟨by simpa using h.1, fun k c u hk => by simp at hk⟩
  | p :: ps, us, h, hi => by
    simp only [PV.renL] at h
    obtain ⟨u, us', rfl, h1, h2⟩ := h.cons_inv
    exact RepL.cons_ (Rep.unren ho p u h1 (fun r hr => hi r (by simp [PV.idsL, hr]))) (RepL.unren ho ps us' h2 (fun r hr => hi r (by simp [PV.idsL, hr])))
end
end
end Pv
end Go.Proofs.Ytogoplhikmmggaa
