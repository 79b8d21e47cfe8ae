/- CALLS OF FUNCTIONS: what a contract says; that a call by contract is sound. -/
import Derived.Test.YtogoplhikmmggaaPv11
set_option linter.unusedSimpArgs false
set_option linter.unusedVariables false
namespace Go.Proofs.Ytogoplhikmmggaa
namespace Pv
open Go.RowKit

/-- The store behind a call, in the callee's names. -/
def resSt (c : CallRes) : Nat → Option SE := fun r => if newBase ≤ r then c.news[r - newBase]? else c.st[r]?

/-- THE CONTRACT OF A FUNCTION at given pure arguments and boxes: in whatever memory, the call returns, and gives 'c'. -/
def PureCall (P : Program) (f : FuncId) (args : List PV) (bs : List SE) (c : CallRes) : Prop :=
  (∃ fn, P.funcs[f]? = some fn ∧ fn.body.isSome = true ∧ (fn.name == "runtime.NumGoroutine") = false) ∧
  ∀ (w : World) (γ : Gh) (as ls : Nat → Prop) (vals : List Value), RepSt ⟨w.heap.size, as, ls, bs.length, γ⟩ γ w (fun r => bs[r]?) → (∀ b, as b ∨ ls b → b < w.heap.size) →
    RepL ⟨w.heap.size, as, ls, bs.length, γ⟩ γ w args vals →
    Calls P f vals.toArray w fun e w' => ∃ v γ', e = .returned v ∧ Rep ⟨w.heap.size, as, ls, bs.length, γ⟩ γ' w' c.val v ∧ RepSt ⟨w.heap.size, as, ls, bs.length, γ⟩ γ' w' (resSt c) ∧
      Keeps γ.own w w' ∧ (∀ r, r < bs.length → γ' r = γ r) ∧ (∀ b, γ'.own b → γ.own b ∨ w.heap.size ≤ b)

section
variable {P : Program} {X X' : Cx} {γ γ' : Gh} {w w' : World} {st st' : Nat → Option SE}

/-! ### lending -/
theorem lendT_pos (τ : Nat) : 1 ≤ lendT τ := by cases τ <;> simp [lendT]
theorem lendT_ge (τ : Nat) : τ ≤ lendT τ := by cases τ <;> simp [lendT]

theorem lendT_mono {a b : Nat} (h : a ≤ b) : lendT a ≤ lendT b := by
  cases a with
  | zero => exact lendT_pos b
  | succ a => cases b with
    | zero => omega
    | succ b => exact h
theorem flat_mark {c : PV} (h : c.flat = true) (τ : Nat) : (c.mark τ).flat = true := by
  cases c with
  | fn f a b => obtain ⟨rfl, rfl⟩ := flat_fn h; rfl
  | _ => first | rfl | (simp [PV.flat] at h)

/-- What is known of the callee's view. -/
structure Lent (X X' : Cx) (γ γ' : Gh) (w : World) : Prop where
  as_ : ∀ b, b < w.heap.size → mayLie X γ 1 b → mayLie X' γ' 1 b
  ls_ : ∀ τ b, b < w.heap.size → mayLie X γ τ b → mayLie X' γ' 2 b

theorem Lent.lie (h : Lent X X' γ γ' w) {τ b : Nat} (hb : b < w.heap.size) (hm : mayLie X γ τ b) : mayLie X' γ' (lendT τ) b := by
  rcases Nat.lt_or_ge 1 τ with ht | ht
  · exact (h.ls_ τ b hb hm).mono (Nat.le_trans ht (lendT_ge τ))
  · exact (h.as_ b hb (hm.mono ht)).mono (lendT_pos τ)

theorem Rep.lend {p : PV} {v : Value} (h : Rep X γ w p v) (hL : Lent X X' γ γ' w) : p.flat = true → ∀ τ', lendT p.tau ≤ τ' → Rep X' γ' w (p.mark τ') v := by
  induction h with
  | int k n => intro _ _ _; exact .int k n
  | bool b => intro _ _ _; exact .bool b
  | str s => intro _ _ _; exact .str s
  | sl τ z n f ad cap vs hcap hz hf hb h ih =>
    intro _ τ' ht
    simp only [PV.tau] at ht
    refine .sl τ' z n f ad cap vs hcap hz hf (fun hn => ?_) (fun i j c hi hc => ?_)
    · obtain ⟨a, rfl, hm, hlt, hc⟩ := hb hn
      exact ⟨a, rfl, (hL.lie hlt hm).mono ht, hlt, hc⟩
    · have hfl := hf i hi c (List.mem_of_getElem? hc)
      have hle : lendT (c.mark τ).tau ≤ τ' := Nat.le_trans (lendT_mono (tau_mark c τ)) ht
      have := ih i j c hi hc (flat_mark hfl τ) τ' hle
      rwa [mark_mark] at this
  | fn f first caps vs us hl hl' h h' ih ih' =>
    intro hf τ' _
    obtain ⟨rfl, rfl⟩ := flat_fn hf
    exact (Rep.fn (X := X) (γ := γ) (w := w) f [] [] vs us hl hl' h h').fn_nil
  | _ => intro hf; simp [PV.flat] at hf

theorem Rep.lend_rp {τ : Nat} {cs : List PV} {v : Value} (h : Rep X γ w (.rp τ cs) v) (hL : Lent X X' γ γ' w) : Rep X' γ' w (.rp (lendT τ) cs) v := by
  cases h with
  | rp τ cs a vs hf hb hc h =>
    refine .rp _ cs a vs hf (fun hn => ?_) hc (fun k c hk => ?_)
    · obtain ⟨h1, h2⟩ := hb hn
      exact ⟨hL.lie h2 h1, h2⟩
    · have hfl := hf c (List.mem_of_getElem? hk)
      have hle : lendT (c.mark τ).tau ≤ lendT τ := lendT_mono (tau_mark c τ)
      have := (h k c hk).lend hL (flat_mark hfl τ) (lendT τ) hle
      rwa [mark_mark] at this

theorem RowsRep.lend {τ z n : Nat} {f : Nat → List PV} {vs : List Value} (h : RowsRep X γ w τ z n f vs) (hL : Lent X X' γ γ' w) {τ' : Nat} (ht : lendT τ ≤ τ') : RowsRep X' γ' w τ' z n f vs :=
  ⟨h.len, h.one, h.hz, h.hf, fun i j c u hi hc hu => by
    have hfl := h.hf i hi c (List.mem_of_getElem? hc)
    have hle : lendT (c.mark τ).tau ≤ τ' := Nat.le_trans (lendT_mono (tau_mark c τ)) ht
    have := (h.rep i j c u hi hc hu).lend hL (flat_mark hfl τ) τ' hle
    rwa [mark_mark] at this⟩

theorem idx_get : ∀ {ids : List Nat} {cs : List SE} {r : Nat} {e : SE}, getL st ids = some cs → idx ids cs r = some e → r ∈ ids ∧ st r = some e
  | [], cs, r, e, hg, h => by simp [idx] at h
  | i :: is, cs, r, e, hg, h => by
    simp only [getL] at hg
    split at hg
    · rename_i e1 es he1 hes
      injection hg with hg; subst hg
      simp only [idx] at h
      split at h
      · rename_i hir; subst hir; injection h with h; subst h; exact ⟨by simp, he1⟩
      · obtain ⟨h1, h2⟩ := idx_get hes h; exact ⟨by simp [h1], h2⟩
    · cases hg

/-- The boxes among the entries, by their numbers. -/
theorem boxNo_get : ∀ {ids : List Nat} {cs : List SE} {k r j : Nat} {bs : List (Nat × SE)}, boxNo ids cs k r = some j → boxesOf ids cs = some bs → ∃ i, j = k + i ∧ (bs[i]?).map (·.1) = some r
  | [], cs, k, r, j, bs, h, hb => by simp [boxNo] at h
  | i :: is, [], k, r, j, bs, h, hb => by simp [boxNo] at h
  | i :: is, .box l :: cs, k, r, j, bs, h, hb => by
    simp only [boxesOf] at hb
    split at hb
    · rename_i l' rest hl hrest
      injection hb with hb; subst hb
      simp only [boxNo] at h
      split at h
      · rename_i hir; subst hir; injection h with h; exact ⟨0, by omega, rfl⟩
      · obtain ⟨i', h1, h2⟩ := boxNo_get h hrest
        exact ⟨i' + 1, by omega, by simpa using h2⟩
    · cases hb
  | i :: is, .row .. :: cs, k, r, j, bs, h, hb => by
    simp only [boxesOf] at hb
    simp only [boxNo] at h
    split at h
    · cases h
    · exact boxNo_get h hb

theorem boxesOf_get : ∀ {ids : List Nat} {cs : List SE} {bs : List (Nat × SE)}, getL st ids = some cs → boxesOf ids cs = some bs → ∀ (k r : Nat) (e : SE), bs[k]? = some (r, e) → r ∈ ids ∧ ∃ l l', st r = some (.box l) ∧ lendCells l = some l' ∧ e = .box l'
  | [], cs, bs, hg, h, k, r, e, hk => by
    simp only [getL, Option.some.injEq] at hg; subst hg
    simp only [boxesOf, Option.some.injEq] at h; subst h; simp at hk
  | i :: is, cs, bs, hg, h, k, r, e, hk => by
    simp only [getL] at hg
    split at hg
    · rename_i e1 es he1 hes
      injection hg with hg; subst hg
      cases e1 with
      | box l =>
        simp only [boxesOf] at h
        split at h
        · rename_i l' rest hl hrest
          injection h with h; subst h
          cases k with
          | zero =>
            simp only [List.getElem?_cons_zero, Option.some.injEq, Prod.mk.injEq] at hk
            obtain ⟨rfl, rfl⟩ := hk
            exact ⟨by simp, l, l', he1, hl, rfl⟩
          | succ k =>
            obtain ⟨h1, h2⟩ := boxesOf_get hes hrest k r e (by simpa using hk)
            exact ⟨by simp [h1], h2⟩
        · cases h
      | row τ e z n f =>
        simp only [boxesOf] at h
        obtain ⟨h1, h2⟩ := boxesOf_get hes h k r _ hk
        exact ⟨by simp [h1], h2⟩
    · cases hg

theorem boxesOf_nodup : ∀ {ids : List Nat} {cs : List SE} {bs : List (Nat × SE)}, getL st ids = some cs → ids.Nodup → boxesOf ids cs = some bs → (bs.map (·.1)).Nodup
  | [], cs, bs, hg, hn, h => by
    simp only [getL, Option.some.injEq] at hg; subst hg
    simp only [boxesOf, Option.some.injEq] at h; subst h; simp
  | i :: is, cs, bs, hg, hn, h => by
    simp only [getL] at hg
    split at hg
    · rename_i e1 es he1 hes
      injection hg with hg; subst hg
      have hn' := List.nodup_cons.1 hn
      cases e1 with
      | box l =>
        simp only [boxesOf] at h
        split at h
        · rename_i l' rest hl hrest
          injection h with h; subst h
          simp only [List.map_cons, List.nodup_cons]
          refine ⟨fun hin => ?_, boxesOf_nodup hes hn'.2 hrest⟩
          obtain ⟨⟨r, e⟩, hm, hr⟩ := List.mem_map.1 hin
          obtain ⟨k, hk⟩ := List.getElem?_of_mem hm
          have := (boxesOf_get hes hrest k r e hk).1
          simp only at hr; subst hr
          exact hn'.1 this
        · cases h
      | row τ e z n f =>
        simp only [boxesOf] at h
        exact boxesOf_nodup hes hn'.2 h
    · cases hg

theorem lendCell_sound {p q : PV} {v : Value} (h : Rep X γ w p v) (hL : Lent X X' γ γ' w) (hl : lendCell p = some q) : Rep X' γ' w q v ∧ q.one = true := by
  unfold lendCell at hl
  split at hl <;> (try cases hl)
  · exact ⟨h.lend hL rfl _ (Nat.le_refl _), rfl⟩
  · cases h.nil_inv; exact ⟨.nil _, rfl⟩
  · cases h.int_inv; exact ⟨.int _ _, rfl⟩
  · cases h.bool_inv; exact ⟨.bool _, rfl⟩
  · cases h.str_inv; exact ⟨.str _, rfl⟩
  · exact ⟨h.lend_rp hL, rfl⟩
theorem lendCells_sound (hL : Lent X X' γ γ' w) : ∀ {ps qs : List PV} {us : List Value}, RepL X γ w ps us → lendCells ps = some qs → RepL X' γ' w qs us
  | [], qs, us, h, hl => by
    simp only [lendCells, Option.some.injEq] at hl; subst hl
    cases h.nil_inv; exact RepL.nil_
  | p :: ps, qs, us, h, hl => by
    obtain ⟨u, us', rfl, hu, hus⟩ := h.cons_inv
    simp only [lendCells] at hl
    split at hl
    · rename_i q qs' hq hqs
      injection hl with hl; subst hl
      exact RepL.cons_ (lendCell_sound hu hL hq).1 (lendCells_sound hL hus hqs)
    · cases hl

mutual
/-- What a callee gets stands for the same values. -/
theorem lend_sound {ids : List Nat} {cs : List SE} {bs : List (Nat × SE)} (hst : RepSt X γ w st) (hg : getL st ids = some cs) (hb : boxesOf ids cs = some bs) (hL : Lent X X' γ γ' w)
    (hγ : ∀ k r e, bs[k]? = some (r, e) → γ' k = γ r) (hrow : ∀ r ge τ e z n f, r ∈ ids → γ r = some ge → st r = some (.row τ e z n f) → ∀ b, ge.blk = some b → mayLie X' γ' 2 b) :
    ∀ {p q : PV} {v : Value}, Rep X γ w p v → lend ids cs p = some q → Rep X' γ' w q v
  | .os r, q, v, h, hl => by
    simp only [lend] at hl
    split at hl
    · rename_i τ e z n f hi
      split at hl
      · rename_i hτ
        injection hl with hl; subst hl
        obtain ⟨hmem, hsr⟩ := idx_get hg hi
        obtain ⟨ge, hge, rfl⟩ := os_inv h
        obtain ⟨vs, h1, h2, h3, ho, hr⟩ := (hst.at_ _ _ _ hge hsr).rows
        obtain ⟨ad, cap, hv, hnc, _, hor⟩ := own_slice ho
        rw [hv]
        refine (hr.lend hL (τ' := 2) (by cases τ with | zero => simp [lendT] | succ τ => simp [lendT]; omega)).sl hnc ?_ (fun a ha => own_cells ho hv ha)
        rcases hor with h0 | ⟨g, rfl, hlt, hbl⟩
        · exact .inl h0
        · exact .inr ⟨_, rfl, hrow r ge _ _ _ _ _ hmem hge hsr g (by rw [h2, hbl]), hlt⟩
      · cases hl
    · cases hl
  | .pt r i j, q, v, h, hl => by
    simp only [lend] at hl
    split at hl
    · rename_i k hk
      injection hl with hl; subst hl
      obtain ⟨i', rfl, hi'⟩ := boxNo_get hk hb
      obtain ⟨⟨r', e⟩, hbe, hre⟩ := Option.map_eq_some_iff.1 hi'
      simp only at hre; subst hre
      obtain ⟨ge, b, hge, hgb, rfl⟩ := pt_inv h
      exact .pt _ i j ge b (by rw [Nat.zero_add, hγ i' r' e hbe]; exact hge) hgb
    · cases hl
  | .agg l, q, v, h, hl => by
    simp only [lend] at hl
    split at hl
    · rename_i l' hl'
      injection hl with hl; subst hl
      obtain ⟨us, rfl, hu, h1⟩ := h.agg_inv
      have := lendL_sound hst hg hb hL hγ hrow hu hl'
      exact .agg _ _ this.1 h1 this.2
    · cases hl
  | .fn f a b, q, v, h, hl => by
    simp only [lend] at hl
    split at hl
    · rename_i a' b' ha hb'
      injection hl with hl; subst hl
      cases h with
      | fn _ _ _ vs us hvl hul h h' =>
        have h1 := lendL_sound hst hg hb hL hγ hrow ⟨hvl, h⟩ ha
        have h2 := lendL_sound hst hg hb hL hγ hrow ⟨hul, h'⟩ hb'
        exact .fn _ _ _ _ _ h1.1 h2.1 h1.2 h2.2
    · cases hl
  | .sl τ z n f, q, v, h, hl => by
    simp only [lend, Option.some.injEq] at hl; subst hl
    exact h.lend hL rfl _ (Nat.le_refl _)
  | .nil z, q, v, h, hl => by
    simp only [lend, Option.some.injEq] at hl; subst hl
    cases h.nil_inv
    exact .sl 1 z 0 _ none 0 (fun _ => undef) (Nat.le_refl _) (fun i hi => by omega) (fun i hi => by omega) (fun hi => by omega) (fun i j c hi => by omega)
  | .int k n, q, v, h, hl => by
    simp only [lend, Option.some.injEq] at hl; subst hl
    cases h.int_inv; exact .int _ _
  | .bool b, q, v, h, hl => by
    simp only [lend, Option.some.injEq] at hl; subst hl
    cases h.bool_inv; exact .bool _
  | .str s, q, v, h, hl => by
    simp only [lend, Option.some.injEq] at hl; subst hl
    cases h.str_inv; exact .str _
  | .raw u, q, v, h, hl => by
    simp only [lend, Option.some.injEq] at hl; subst hl
    cases h with | raw _ h1 => exact .raw _ h1
  | .tup _, q, v, h, hl => by simp [lend] at hl
  | .rp _ _, q, v, h, hl => by simp [lend] at hl
  | .cnd _ _, q, v, h, hl => by simp [lend] at hl
  | .junk, q, v, h, hl => by simp [lend] at hl
theorem lendL_sound {ids : List Nat} {cs : List SE} {bs : List (Nat × SE)} (hst : RepSt X γ w st) (hg : getL st ids = some cs) (hb : boxesOf ids cs = some bs) (hL : Lent X X' γ γ' w)
    (hγ : ∀ k r e, bs[k]? = some (r, e) → γ' k = γ r) (hrow : ∀ r ge τ e z n f, r ∈ ids → γ r = some ge → st r = some (.row τ e z n f) → ∀ b, ge.blk = some b → mayLie X' γ' 2 b) :
    ∀ {ps qs : List PV} {vs : List Value}, RepL X γ w ps vs → lendL ids cs ps = some qs → RepL X' γ' w qs vs
  | [], qs, vs, h, hl => by
    simp only [lendL, Option.some.injEq] at hl; subst hl
    cases h.nil_inv; exact RepL.nil_
  | p :: ps, qs, vs, h, hl => by
    obtain ⟨u, us', rfl, hu, hus⟩ := h.cons_inv
    simp only [lendL] at hl
    split at hl
    · rename_i q qs' hq hqs
      injection hl with hl; subst hl
      exact RepL.cons_ (lend_sound hst hg hb hL hγ hrow hu hq) (lendL_sound hst hg hb hL hγ hrow hus hqs)
    · cases hl
end
end
end Pv
end Go.Proofs.Ytogoplhikmmggaa
