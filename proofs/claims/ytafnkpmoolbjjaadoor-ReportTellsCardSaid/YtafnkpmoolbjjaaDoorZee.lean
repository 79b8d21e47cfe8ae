/- SMALL THINGS that every walk uses. -/
import Derived.Test.YtafnkpmoolbjjaaDoorZed
import Derived.Test.YtafnkpmoolbjjaaDoorZec
import Derived.Scope
/- CALLS OF FUNCTIONS: what a contract says; that a call by contract is sound. -/
set_option linter.unusedSimpArgs false
set_option linter.unusedVariables false
namespace Go.Proofs.YtafnkpmoolbjjaaDoor
namespace Pv
open Go.RowKit
def resSt (c : CallRes) : Nat → Option SE := fun r => if newBase ≤ r then c.news[r - newBase]? else c.st[r]?
def nbx : List SE → Nat
  | .row .. :: _ => 0
  | bs => bs.length
theorem nbx_rows : ∀ {bs : List SE}, bs.any SE.isRow = false → nbx bs = bs.length
  | [], _ => rfl
  | .row .. :: _, h => by simp [SE.isRow] at h
  | .box _ :: _, _ => rfl
  | .bld .. :: _, _ => rfl
def PureCall (P : Program) (f : FuncId) (args : List PV) (bs : List SE) (c : CallRes) : Prop :=
  (∃ fn, P.funcs[f]? = some fn ∧ fn.body.isSome = true ∧ (fn.name == "runtime.NumGoroutine") = false) ∧
  ∀ (w : World) (γ : Gh) (aas ls : Nat → Prop) (vals : List Value), RepSt ⟨w.heap.size, aas, ls, nbx bs, γ⟩ γ w (fun r => bs[r]?) → (∀ b, aas b ∨ ls b → b < w.heap.size) →
    RepL ⟨w.heap.size, aas, ls, nbx bs, γ⟩ γ w args vals →
    Calls P f vals.toArray w fun e w' => ∃ v γ', e = .returned v ∧ Rep ⟨w.heap.size, aas, ls, nbx bs, γ⟩ γ' w' c.val v ∧ RepSt ⟨w.heap.size, aas, ls, nbx bs, γ⟩ γ' w' (resSt c) ∧
      Keeps γ.own w w' ∧ (∀ r, r < nbx bs → ParOK (γ' r) (γ r) (resSt c r)) ∧ (∀ r ge b, γ' r = some ge → ge.has b → w.heap.size ≤ b ∨ (nbx bs = 0 ∧ γ.own b) ∨ ∃ ge0, γ r = some ge0 ∧ ge0.has b)
section
variable {P : Program} {X X' : Cx} {γ γ' : Gh} {w w' : World} {st st' : Nat → Option SE}
/-! ### lending -/
theorem lendT_pos (τ : Nat) : 1 ≤ lendT τ := by cases τ <;> simp [lendT]
theorem lendT_ge (τ : Nat) : τ ≤ lendT τ := by cases τ <;> simp [lendT]
theorem lendT_mono {a b : Nat} (h : a ≤ b) : lendT a ≤ lendT b := by
  cases a with
  | zero => exact lendT_pos b
  | succ a => cases b with
    | zero => omega
    | succ b => exact h
theorem flat_mark {c : PV} (h : c.flat = true) (τ : Nat) : (c.mark τ).flat = true := by
  cases c with
  | fn f a b => obtain ⟨rfl, rfl⟩ := flat_fn h; rfl
  | _ => first | rfl | (simp [PV.flat] at h)
structure Lent (X X' : Cx) (γ γ' : Gh) (w : World) : Prop where
  as_ : ∀ b, b < w.heap.size → mayLie X γ 1 b → mayLie X' γ' 1 b
  ls_ : ∀ τ b, b < w.heap.size → mayLie X γ τ b → mayLie X' γ' 2 b
theorem Lent.lie (h : Lent X X' γ γ' w) {τ b : Nat} (hb : b < w.heap.size) (hm : mayLie X γ τ b) : mayLie X' γ' (lendT τ) b := by
  rcases Nat.lt_or_ge 1 τ with ht | ht
  · exact (h.ls_ τ b hb hm).mono (Nat.le_trans ht (lendT_ge τ))
  · exact (h.as_ b hb (hm.mono ht)).mono (lendT_pos τ)
theorem Rep.lend {p : PV} {v : Value} (h : Rep X γ w p v) (hL : Lent X X' γ γ' w) : p.flat = true → ∀ τ', lendT p.tau ≤ τ' → Rep X' γ' w (p.mark τ') v := by
  induction h with
  | int k n => intro _ _ _; exact .int k n
  | bool b => intro _ _ _; exact .bool b
  | str s => intro _ _ _; exact .str s
  | sl τ z n f ad cap vs hcap hz hf hb h ih =>
    intro _ τ' ht
    simp only [PV.tau] at ht
    refine .sl τ' z n f ad cap vs hcap hz hf (fun hn => ?_) (fun i j c hi hc => ?_)
    · obtain ⟨a, rfl, hm, hlt, hc⟩ := hb hn
      exact ⟨a, rfl, (hL.lie hlt hm).mono ht, hlt, hc⟩
    · have hfl := hf i hi c (List.mem_of_getElem? hc)
      have hle : lendT (c.mark τ).tau ≤ τ' := Nat.le_trans (lendT_mono (tau_mark c τ)) ht
      have := ih i j c hi hc (flat_mark hfl τ) τ' hle
      rwa [mark_mark] at this
  | fn f first caps vs us hl hl' h h' ih ih' =>
    intro hf τ' _
    obtain ⟨rfl, rfl⟩ := flat_fn hf
    exact (Rep.fn (X := X) (γ := γ) (w := w) f [] [] vs us hl hl' h h').fn_nil
  | _ => intro hf; simp [PV.flat] at hf
theorem Rep.lend_rp {τ : Nat} {cs : List PV} {v : Value} (h : Rep X γ w (.rp τ cs) v) (hL : Lent X X' γ γ' w) : Rep X' γ' w (.rp (lendT τ) cs) v := by
  cases h with
  | rp τ cs a vs hf hb hc h =>
    refine .rp _ cs a vs hf (fun hn => ?_) hc (fun k c hk => ?_)
    · obtain ⟨h1, h2⟩ := hb hn
      exact ⟨hL.lie h2 h1, h2⟩
    · have hfl := hf c (List.mem_of_getElem? hk)
      have hle : lendT (c.mark τ).tau ≤ lendT τ := lendT_mono (tau_mark c τ)
      have := (h k c hk).lend hL (flat_mark hfl τ) (lendT τ) hle
      rwa [mark_mark] at this
theorem RowsRep.lend {τ z n : Nat} {f : Nat → List PV} {vs : List Value} (h : RowsRep X γ w τ z n f vs) (hL : Lent X X' γ γ' w) {τ' : Nat} (ht : lendT τ ≤ τ') : RowsRep X' γ' w τ' z n f vs :=
  ⟨h.len, h.one, h.hz, h.hf, fun i j c u hi hc hu => by
    have hfl := h.hf i hi c (List.mem_of_getElem? hc)
    have hle : lendT (c.mark τ).tau ≤ τ' := Nat.le_trans (lendT_mono (tau_mark c τ)) ht
    have := (h.rep i j c u hi hc hu).lend hL (flat_mark hfl τ) τ' hle
    rwa [mark_mark] at this⟩
theorem idx_get : ∀ {ids : List Nat} {cs : List SE} {r : Nat} {e : SE}, getL st ids = some cs → idx ids cs r = some e → r ∈ ids ∧ st r = some e
  | [], cs, r, e, hg, h => by simp [idx] at h
  | i :: is, cs, r, e, hg, h => by
    simp only [getL] at hg
    split at hg
    · rename_i e1 es he1 hes
      injection hg with hg; subst hg
      simp only [idx] at h
      split at h
      · rename_i hir; subst hir; injection h with h; subst h; exact ⟨by simp, he1⟩
      · obtain ⟨h1, h2⟩ := idx_get hes h; exact ⟨by simp [h1], h2⟩
    · cases hg
theorem boxNo_get : ∀ {ids : List Nat} {cs : List SE} {k r j : Nat} {bs : List (Nat × SE)}, boxNo ids cs k r = some j → boxesOf ids cs = some bs → ∃ i, j = k + i ∧ (bs[i]?).map (·.1) = some r
  | [], cs, k, r, j, bs, h, hb => by simp [boxNo] at h
  | i :: is, [], k, r, j, bs, h, hb => by simp [boxNo] at h
  | i :: is, .box l :: cs, k, r, j, bs, h, hb => by
    simp only [boxesOf] at hb
    split at hb
    · rename_i l' rest hl hrest
      injection hb with hb; subst hb
      simp only [boxNo] at h
      split at h
      · rename_i hir; subst hir; injection h with h; exact ⟨0, by omega, rfl⟩
      · obtain ⟨i', h1, h2⟩ := boxNo_get h hrest
        exact ⟨i' + 1, by omega, by simpa using h2⟩
    · cases hb
  | i :: is, .row .. :: cs, k, r, j, bs, h, hb => by
    simp only [boxesOf] at hb
    simp only [boxNo] at h
    split at h
    · cases h
    · exact boxNo_get h hb
  | i :: is, .bld .. :: cs, k, r, j, bs, h, hb => by
    simp only [boxesOf] at hb
    split at hb
    · rename_i rest hrest
      injection hb with hb; subst hb
      simp only [boxNo] at h
      split at h
      · rename_i hir; subst hir; injection h with h; exact ⟨0, by omega, rfl⟩
      · obtain ⟨i', h1, h2⟩ := boxNo_get h hrest
        exact ⟨i' + 1, by omega, by simpa using h2⟩
    · cases hb
theorem boxesOf_get : ∀ {ids : List Nat} {cs : List SE} {bs : List (Nat × SE)}, getL st ids = some cs → boxesOf ids cs = some bs → ∀ (k r : Nat) (e : SE), bs[k]? = some (r, e) → r ∈ ids ∧ ((∃ l l', st r = some (.box l) ∧ lendCells l = some l' ∧ e = .box l') ∨ ∃ T t s, st r = some (.bld T t s) ∧ e = .bld T t s)
  | [], cs, bs, hg, h, k, r, e, hk => by
    simp only [getL, Option.some.injEq] at hg; subst hg
    simp only [boxesOf, Option.some.injEq] at h; subst h; simp at hk
  | i :: is, cs, bs, hg, h, k, r, e, hk => by
    simp only [getL] at hg
    split at hg
    · rename_i e1 es he1 hes
      injection hg with hg; subst hg
      cases e1 with
      | box l =>
        simp only [boxesOf] at h
        split at h
        · rename_i l' rest hl hrest
          injection h with h; subst h
          cases k with
          | zero =>
            simp only [List.getElem?_cons_zero, Option.some.injEq, Prod.mk.injEq] at hk
            obtain ⟨rfl, rfl⟩ := hk
            exact ⟨by simp, .inl ⟨l, l', he1, hl, rfl⟩⟩
          | succ k =>
            obtain ⟨h1, h2⟩ := boxesOf_get hes hrest k r e (by simpa using hk)
            exact ⟨by simp [h1], h2⟩
        · cases h
      | row τ e z n f =>
        simp only [boxesOf] at h
        obtain ⟨h1, h2⟩ := boxesOf_get hes h k r _ hk
        exact ⟨by simp [h1], h2⟩
      | bld T t s =>
        simp only [boxesOf] at h
        split at h
        · rename_i rest hrest
          injection h with h; subst h
          cases k with
          | zero =>
            simp only [List.getElem?_cons_zero, Option.some.injEq, Prod.mk.injEq] at hk
            obtain ⟨rfl, rfl⟩ := hk
            exact ⟨by simp, .inr ⟨T, t, s, he1, rfl⟩⟩
          | succ k =>
            obtain ⟨h1, h2⟩ := boxesOf_get hes hrest k r e (by simpa using hk)
            exact ⟨by simp [h1], h2⟩
        · cases h
    · cases hg
theorem boxesOf_nodup : ∀ {ids : List Nat} {cs : List SE} {bs : List (Nat × SE)}, getL st ids = some cs → ids.Nodup → boxesOf ids cs = some bs → (bs.map (·.1)).Nodup
  | [], cs, bs, hg, hn, h => by
    simp only [getL, Option.some.injEq] at hg; subst hg
    simp only [boxesOf, Option.some.injEq] at h; subst h; simp
  | i :: is, cs, bs, hg, hn, h => by
    simp only [getL] at hg
    split at hg
    · rename_i e1 es he1 hes
      injection hg with hg; subst hg
      have hn' := List.nodup_cons.1 hn
      cases e1 with
      | box l =>
        simp only [boxesOf] at h
        split at h
        · rename_i l' rest hl hrest
          injection h with h; subst h
          simp only [List.map_cons, List.nodup_cons]
          refine ⟨fun hin => ?_, boxesOf_nodup hes hn'.2 hrest⟩
          obtain ⟨⟨r, e⟩, hm, hr⟩ := List.mem_map.1 hin
          obtain ⟨k, hk⟩ := List.getElem?_of_mem hm
          have := (boxesOf_get hes hrest k r e hk).1
          simp only at hr; subst hr
          exact hn'.1 this
        · cases h
      | row τ e z n f =>
        simp only [boxesOf] at h
        exact boxesOf_nodup hes hn'.2 h
      | bld T t s =>
        simp only [boxesOf] at h
        split at h
        · rename_i rest hrest
          injection h with h; subst h
          simp only [List.map_cons, List.nodup_cons]
          refine ⟨fun hin => ?_, boxesOf_nodup hes hn'.2 hrest⟩
          obtain ⟨⟨r, e⟩, hm, hr⟩ := List.mem_map.1 hin
          obtain ⟨k, hk⟩ := List.getElem?_of_mem hm
          have := (boxesOf_get hes hrest k r e hk).1
          simp only at hr; subst hr
          exact hn'.1 this
        · cases h
    · cases hg
theorem lendCell_sound {p q : PV} {v : Value} (h : Rep X γ w p v) (hL : Lent X X' γ γ' w) (hl : lendCell p = some q) : Rep X' γ' w q v ∧ q.one = true := by
  unfold lendCell at hl
  split at hl <;> (try cases hl)
  · exact ⟨h.lend hL rfl _ (Nat.le_refl _), rfl⟩
  · cases h.nil_inv; exact ⟨.nil _, rfl⟩
  · cases h.int_inv; exact ⟨.int _ _, rfl⟩
  · cases h.bool_inv; exact ⟨.bool _, rfl⟩
  · cases h.str_inv; exact ⟨.str _, rfl⟩
  · exact ⟨h.lend_rp hL, rfl⟩
  · cases h
theorem lendCells_sound (hL : Lent X X' γ γ' w) : ∀ {ps qs : List PV} {us : List Value}, RepL X γ w ps us → lendCells ps = some qs → RepL X' γ' w qs us
  | [], qs, us, h, hl => by
    simp only [lendCells, Option.some.injEq] at hl; subst hl
    cases h.nil_inv; exact RepL.nil_
  | p :: ps, qs, us, h, hl => by
    obtain ⟨u, us', rfl, hu, hus⟩ := h.cons_inv
    simp only [lendCells] at hl
    split at hl
    · rename_i q qs' hq hqs
      injection hl with hl; subst hl
      exact RepL.cons_ (lendCell_sound hu hL hq).1 (lendCells_sound hL hus hqs)
    · cases hl
mutual
theorem lend_sound {ids : List Nat} {cs : List SE} {bs : List (Nat × SE)} (hst : RepSt X γ w st) (hg : getL st ids = some cs) (hb : boxesOf ids cs = some bs) (hL : Lent X X' γ γ' w)
    (hγ : ∀ k r e, bs[k]? = some (r, e) → γ' k = γ r) (hrow : ∀ r ge τ e z n f, r ∈ ids → γ r = some ge → st r = some (.row τ e z n f) → ∀ b, ge.blk = some b → mayLie X' γ' 2 b) :
    ∀ {p q : PV} {v : Value}, Rep X γ w p v → lend ids cs p = some q → Rep X' γ' w q v
  | .os r, q, v, h, hl => by
    simp only [lend] at hl
    split at hl
    · rename_i τ e z n f hi
      split at hl
      · rename_i hτ
        injection hl with hl; subst hl
        obtain ⟨hmem, hsr⟩ := idx_get hg hi
        obtain ⟨ge, hge, rfl⟩ := os_inv h
        obtain ⟨vs, h1, h2, h3, ho, hr⟩ := (hst.at_ _ _ _ hge hsr).rows
        obtain ⟨ad, cap, hv, hnc, _, hor⟩ := own_slice ho
        rw [hv]
        refine (hr.lend hL (τ' := 2) (by cases τ with | zero => simp [lendT] | succ τ => simp [lendT]; omega)).sl hnc ?_ (fun a ha => own_cells ho hv ha)
        rcases hor with h0 | ⟨g, rfl, hlt, hbl⟩
        · exact .inl h0
        · exact .inr ⟨_, rfl, hrow r ge _ _ _ _ _ hmem hge hsr g (by rw [h2, hbl]), hlt⟩
      · cases hl
    · cases hl
  | .vw b r lo n, q, v, h, hl => by
    simp only [lend] at hl
    split at hl
    · rename_i τ e z n' f hi
      split at hl
      · rename_i hτ
        injection hl with hl; subst hl
        obtain ⟨hmem, hsr⟩ := idx_get hg hi
        obtain ⟨ad, cap, vs, rfl, hnc, hr, hor, hc⟩ := vw_rows hst h hsr
        obtain ⟨ge, ad', m, cap', hge, hh, hle, hvw⟩ := vw_inv h
        refine (hr.lend hL (τ' := 2) (by cases τ with | zero => simp [lendT] | succ τ => simp [lendT]; omega)).sl hnc ?_ (fun a ha => hc a ha)
        rcases Nat.eq_zero_or_pos n with h0 | h0
        · exact .inl h0
        · right
          obtain ⟨vs', _, h2, _, ho, _⟩ := (hst.at_ _ _ _ hge hsr).rows
          obtain ⟨ad2, cap2, hv2, hnc2, _, hor2⟩ := own_slice ho
          rw [hh] at hv2
          injection hv2 with e1 e2 e3
          subst e1; subst e2; subst e3
          rcases hor2 with h3 | ⟨g, rfl, hlt, hbl⟩
          · omega
          · injection hvw with e4 _ _
            have hne : cap' ≠ lo := by omega
            rw [if_neg hne, Option.map_some] at e4
            refine ⟨_, e4, ?_, ?_⟩
            · rw [add_plain]
              exact hrow r ge _ _ _ _ _ hmem hge hsr g (by rw [h2, hbl])
            · rw [add_plain]; exact hlt
      · cases hl
    · cases hl
  | .pt r i j, q, v, h, hl => by
    simp only [lend] at hl
    split at hl
    · rename_i k hk
      injection hl with hl; subst hl
      obtain ⟨i', rfl, hi'⟩ := boxNo_get hk hb
      obtain ⟨⟨r', e⟩, hbe, hre⟩ := Option.map_eq_some_iff.1 hi'
      simp only at hre; subst hre
      obtain ⟨ge, b, hge, hgb, rfl⟩ := pt_inv h
      exact .pt _ i j ge b (by rw [Nat.zero_add, hγ i' r' e hbe]; exact hge) hgb
    · cases hl
  | .rf m r, q, v, h, hl => by
    simp only [lend] at hl
    split at hl
    · rename_i k hk
      injection hl with hl; subst hl
      obtain ⟨i', rfl, hi'⟩ := boxNo_get hk hb
      obtain ⟨⟨r', e⟩, hbe, hre⟩ := Option.map_eq_some_iff.1 hi'
      simp only at hre; subst hre
      cases h with
      | rf _ ge b hge hgb => exact .rf _ ge b (by rw [Nat.zero_add, hγ i' _ e hbe]; exact hge) hgb
      | rfs z n _ ge b hge hgb => exact .rfs z n _ ge b (by rw [Nat.zero_add, hγ i' _ e hbe]; exact hge) hgb
    · cases hl
  | .agg l, q, v, h, hl => by
    simp only [lend] at hl
    split at hl
    · rename_i l' hl'
      injection hl with hl; subst hl
      obtain ⟨us, rfl, hu, h1⟩ := h.agg_inv
      have := lendL_sound hst hg hb hL hγ hrow hu hl'
      exact .agg _ _ this.1 h1 this.2
    · cases hl
  | .fn f a b, q, v, h, hl => by
    simp only [lend] at hl
    split at hl
    · rename_i a' b' ha hb'
      injection hl with hl; subst hl
      cases h with
      | fn _ _ _ vs us hvl hul h h' =>
        have h1 := lendL_sound hst hg hb hL hγ hrow ⟨hvl, h⟩ ha
        have h2 := lendL_sound hst hg hb hL hγ hrow ⟨hul, h'⟩ hb'
        exact .fn _ _ _ _ _ h1.1 h2.1 h1.2 h2.2
    · cases hl
  | .sl τ z n f, q, v, h, hl => by
    simp only [lend, Option.some.injEq] at hl; subst hl
    exact h.lend hL rfl _ (Nat.le_refl _)
  | .nil z, q, v, h, hl => by
    simp only [lend, Option.some.injEq] at hl; subst hl
    cases h.nil_inv; exact .nil _
  | .int k n, q, v, h, hl => by
    simp only [lend, Option.some.injEq] at hl; subst hl
    cases h.int_inv; exact .int _ _
  | .bool b, q, v, h, hl => by
    simp only [lend, Option.some.injEq] at hl; subst hl
    cases h.bool_inv; exact .bool _
  | .str s, q, v, h, hl => by
    simp only [lend, Option.some.injEq] at hl; subst hl
    cases h.str_inv; exact .str _
  | .raw u, q, v, h, hl => by
    simp only [lend, Option.some.injEq] at hl; subst hl
    cases h with | raw _ h1 => exact .raw _ h1
  | .tup _, q, v, h, hl => by simp [lend] at hl
  | .rp _ _, q, v, h, hl => by simp [lend] at hl
  | .mpv _ _ _ _ _ _, q, v, h, hl => by simp [lend] at hl
  | .cnd _ _, q, v, h, hl => by simp [lend] at hl
  | .junk, q, v, h, hl => by simp [lend] at hl
theorem lendL_sound {ids : List Nat} {cs : List SE} {bs : List (Nat × SE)} (hst : RepSt X γ w st) (hg : getL st ids = some cs) (hb : boxesOf ids cs = some bs) (hL : Lent X X' γ γ' w)
    (hγ : ∀ k r e, bs[k]? = some (r, e) → γ' k = γ r) (hrow : ∀ r ge τ e z n f, r ∈ ids → γ r = some ge → st r = some (.row τ e z n f) → ∀ b, ge.blk = some b → mayLie X' γ' 2 b) :
    ∀ {ps qs : List PV} {vs : List Value}, RepL X γ w ps vs → lendL ids cs ps = some qs → RepL X' γ' w qs vs
  | [], qs, vs, h, hl => by
    simp only [lendL, Option.some.injEq] at hl; subst hl
    cases h.nil_inv; exact RepL.nil_
  | p :: ps, qs, vs, h, hl => by
    obtain ⟨u, us', rfl, hu, hus⟩ := h.cons_inv
    simp only [lendL] at hl
    split at hl
    · rename_i q qs' hq hqs
      injection hl with hl; subst hl
      exact RepL.cons_ (lend_sound hst hg hb hL hγ hrow hu hq) (lendL_sound hst hg hb hL hγ hrow hus hqs)
    · cases hl
end
end
end Pv
end Go.Proofs.YtafnkpmoolbjjaaDoor
/- CALLS, SECOND PART: what comes back. -/
set_option linter.unusedSimpArgs false
set_option linter.unusedVariables false
namespace Go.Proofs.YtafnkpmoolbjjaaDoor
namespace Pv
open Go.RowKit
theorem wrS_other : ∀ (l : List (Nat × SE)) (st : Nat → Option SE) (r : Nat), (∀ x ∈ l, x.1 ≠ r) → wrS l st r = st r
  | [], st, r, h => rfl
  | (k, e) :: l, st, r, h => by
    simp only [wrS]
    rw [wrS_other l _ r (fun x hx => h x (by simp [hx])), upd_ne st e (by have := h (k, e) (by simp); simp only at this; exact fun hh => this hh.symm)]
theorem wrS_at : ∀ (l : List (Nat × SE)) (st : Nat → Option SE) (r : Nat) (e : SE), (l.map (·.1)).Nodup → (r, e) ∈ l → wrS l st r = some e
  | [], st, r, e, hn, h => by simp at h
  | (k, e') :: l, st, r, e, hn, h => by
    simp only [List.map_cons, List.nodup_cons] at hn
    simp only [wrS]
    rcases List.mem_cons.1 h with h | h
    · injection h with h1 h2; subst h1; subst h2
      rw [wrS_other l _ r (fun x hx hh => hn.1 (List.mem_map.2 ⟨x, hx, hh⟩)), upd_same]
    · exact wrS_at l _ r e hn.2 h
theorem nwS_get : ∀ (es : List SE) (d : Nat) (st st' : Nat → Option SE), nwS d es st = some st' → (∀ k e, es[k]? = some e → st' (d + k) = some e ∧ st (d + k) = none) ∧ ∀ r, (r < d ∨ d + es.length ≤ r) → st' r = st r
  | [], d, st, st', h => by simp only [nwS, Option.some.injEq] at h; subst h; exact ⟨fun k e hk => by simp at hk, fun _ _ => rfl⟩
  | e :: es, d, st, st', h => by
    simp only [nwS] at h
    split at h
    · rename_i hd
      obtain ⟨h1, h2⟩ := nwS_get es (d + 1) _ st' h
      refine ⟨fun k x hk => ?_, fun r hr => ?_⟩
      · cases k with
        | zero =>
          simp only [List.getElem?_cons_zero, Option.some.injEq] at hk; subst hk
          refine ⟨?_, hd⟩
          rw [Nat.add_zero, h2 d (.inl (by omega)), upd_same]
        | succ k =>
          obtain ⟨h3, h4⟩ := h1 k x (by simpa using hk)
          have e1 : d + 1 + k = d + (k + 1) := by omega
          rw [e1] at h3 h4
          rw [upd_ne st e (by omega)] at h4
          exact ⟨h3, h4⟩
      · simp only [List.length_cons] at hr
        rw [h2 r (by omega), upd_ne st e (by omega)]
    · cases h
theorem renL_get (ρ : Nat → Nat) : ∀ (cs : List PV) (i : Nat), (PV.renL ρ cs)[i]? = (cs[i]?).map (PV.ren ρ)
  | [], i => by simp [PV.renL]
  | c :: cs, 0 => by simp [PV.renL]
  | c :: cs, i + 1 => by simpa [PV.renL] using renL_get ρ cs i
theorem renL_length (ρ : Nat → Nat) : ∀ (cs : List PV), (PV.renL ρ cs).length = cs.length
  | [] => rfl
  | c :: cs => by simp [PV.renL, renL_length ρ cs]
theorem flat_ren {c : PV} (h : c.flat = true) (ρ : Nat → Nat) (τ : Nat) : (c.mark τ).ren ρ = c.mark τ := by
  cases c with
  | fn f a b => obtain ⟨rfl, rfl⟩ := flat_fn h; rfl
  | _ => first | rfl | (simp [PV.flat] at h)
theorem freshL_get : ∀ {l : List PV} {k : Nat} {c : PV}, PV.freshL l = true → l[k]? = some c → c.freshB = true
  | [], k, c, h, hk => by simp at hk
  | p :: ps, k, c, h, hk => by
    simp only [PV.freshL, Bool.and_eq_true] at h
    cases k with
    | zero => simp only [List.getElem?_cons_zero, Option.some.injEq] at hk; subst hk; exact h.1
    | succ k => exact freshL_get h.2 (by simpa using hk)
theorem fresh_mark {c : PV} (h : c.flat = true) {τ : Nat} (ht : τ ≤ 1) : (c.mark τ).freshB = true := by
  cases c with
  | fn f a b => obtain ⟨rfl, rfl⟩ := flat_fn h; rfl
  | _ => first | rfl | (simp [PV.flat] at h; done) | simpa [PV.mark, PV.freshB] using ht
section
variable {P : Program} {X X' : Cx} {γ γ' : Gh} {w w' : World} {st st' : Nat → Option SE}
theorem Rep.back {nr : Bool} {ρ : Nat → Nat} {p : PV} {v : Value} (h : Rep X' γ' w p v) (hγ : ∀ r ge, γ' r = some ge → γ (ρ r) = some ge)
    (hl : ∀ τ b, (nr = true ∨ τ ≤ 1) → b < w.heap.size → mayLie X' γ' τ b → mayLie X γ τ b) : (nr = true ∨ p.freshB = true) → Rep X γ w (p.ren ρ) v := by
  induction h with
  | int k n => intro _; exact .int k n
  | bool b => intro _; exact .bool b
  | str s => intro _; exact .str s
  | agg cs vs hvl hc h ih =>
    intro hf
    refine .agg _ _ (by rw [renL_length]; exact hvl) hc fun k c u hk hu => ?_
    rw [renL_get] at hk
    obtain ⟨c0, h0, rfl⟩ := Option.map_eq_some_iff.1 hk
    exact ih k c0 u h0 hu (hf.imp id fun hf => freshL_get hf h0)
  | tup cs vs hvl h ih =>
    intro hf
    refine .tup _ _ (by rw [renL_length]; exact hvl) fun k c u hk hu => ?_
    rw [renL_get] at hk
    obtain ⟨c0, h0, rfl⟩ := Option.map_eq_some_iff.1 hk
    exact ih k c0 u h0 hu (hf.imp id fun hf => freshL_get hf h0)
  | sl τ z n f ad cap vs hcap hz hff hb h ih =>
    intro hf
    have hf' : nr = true ∨ τ ≤ 1 := hf.imp id fun hf => by simpa [PV.freshB] using hf
    refine .sl τ z n f ad cap vs hcap hz hff (fun hn => ?_) (fun i j c hi hc => ?_)
    · obtain ⟨a, rfl, hm, hlt, hc⟩ := hb hn
      exact ⟨a, rfl, hl _ _ hf' hlt hm, hlt, hc⟩
    · have hfl := hff i hi c (List.mem_of_getElem? hc)
      have := ih i j c hi hc (hf'.imp id fun ht => fresh_mark hfl ht)
      rwa [flat_ren hfl] at this
  | nil z => intro _; exact .nil z
  | os r ge hg h1 h2 => intro _; exact .os _ ge (hγ r ge hg) h1 h2
  | vw h r lo n ge ad m cap hg hh hle h0 h2 => intro _; exact .vw h _ lo n ge ad m cap (hγ r ge hg) hh hle h0 h2
  | pt r i j ge b hg hb => intro _; exact .pt _ i j ge b (hγ r ge hg) hb
  | rf r ge b hg hb => intro _; exact .rf _ ge b (hγ r ge hg) hb
  | rfs z n r ge b hg hb => intro _; exact .rfs z n _ ge b (hγ r ge hg) hb
  | rp τ cs a vs hff hb hc h ih =>
    intro hf
    have hf' : nr = true ∨ τ ≤ 1 := hf.imp id fun hf => by simpa [PV.freshB] using hf
    refine .rp τ cs a vs hff (fun hn => ?_) hc (fun k c hk => ?_)
    · obtain ⟨hm, hlt⟩ := hb hn
      exact ⟨hl _ _ hf' hlt hm, hlt⟩
    · have hfl := hff c (List.mem_of_getElem? hk)
      have := ih k c hk (hf'.imp id fun ht => fresh_mark hfl ht)
      rwa [flat_ren hfl] at this
  | fn f first caps vs us hvl hul h h' ih ih' =>
    intro hf
    have hf1 : nr = true ∨ (PV.freshL first = true ∧ PV.freshL caps = true) := hf.imp id fun hf => by simpa [PV.freshB] using hf
    refine .fn _ _ _ _ _ (by rw [renL_length]; exact hvl) (by rw [renL_length]; exact hul) (fun k c u hk hu => ?_) (fun k c u hk hu => ?_)
    · rw [renL_get] at hk
      obtain ⟨c0, h0, rfl⟩ := Option.map_eq_some_iff.1 hk
      exact ih k c0 u h0 hu (hf1.imp id fun hf => freshL_get hf.1 h0)
    · rw [renL_get] at hk
      obtain ⟨c0, h0, rfl⟩ := Option.map_eq_some_iff.1 hk
      exact ih' k c0 u h0 hu (hf1.imp id fun hf => freshL_get hf.2 h0)
  | raw v h1 => intro _; exact .raw v h1
  | cnd g p v h hu ih =>
    intro hf
    rcases hf with hf | hf
    · exact .cnd g _ v (fun hg => ih hg (.inl hf)) hu
    · simp [PV.freshB] at hf
  | junk v => intro _; exact .junk v
theorem RepS.back {nr : Bool} {ρ : Nat → Nat} {ge : GE} {e : SE} (h : RepS X' γ' w ge e) (hγ : ∀ r ge, γ' r = some ge → γ (ρ r) = some ge)
    (hl : ∀ τ b, (nr = true ∨ τ ≤ 1) → b < w.heap.size → mayLie X' γ' τ b → mayLie X γ τ b) (hf : nr = true ∨ e.freshB = true) : RepS X γ w ge (e.ren ρ) := by
  cases e with
  | box l =>
    obtain ⟨b, h1, h2⟩ := h
    refine ⟨b, h1, h2.map_ rfl (fun us h => ⟨by rw [renL_length]; exact h.1, fun k c u hk hu => ?_⟩) (fun _ _ _ _ _ _ h => by rw [h]; rfl)⟩
    rw [renL_get] at hk
    obtain ⟨c0, h0, rfl⟩ := Option.map_eq_some_iff.1 hk
    exact (h.2 k c0 u h0 hu).back hγ hl (hf.imp id fun hf => freshL_get hf h0)
  | row τ e z n f =>
    obtain ⟨vs, h1, h2, h2', h3, h4, h5, h6, h7⟩ := h
    have hf' : nr = true ∨ τ ≤ 1 := hf.imp id fun hf => by simpa [SE.freshB] using hf
    refine ⟨vs, h1, h2, h2', h3, h4, h5, h6, fun i j c u hi hc hu => ?_⟩
    have hfl := h6 i hi c (List.mem_of_getElem? hc)
    have := (h7 i j c u hi hc hu).back hγ hl (hf'.imp id fun ht => fresh_mark hfl ht)
    rwa [flat_ren hfl] at this
  | bld T e s => exact h
theorem sameKinds_get : ∀ {aas bs : List SE}, sameKinds aas bs = true → ∀ (k : Nat) (a b : SE), aas[k]? = some a → bs[k]? = some b → a.kind = b.kind
  | [], [], _, k, a, b, ha, _ => by simp at ha
  | x :: aas, y :: bs, h, k, a, b, ha, hb => by
    simp only [sameKinds, Bool.and_eq_true] at h
    cases k with
    | zero =>
      simp only [List.getElem?_cons_zero, Option.some.injEq] at ha hb
      subst ha; subst hb; exact Nat.eq_of_beq_eq_true h.1
    | succ k => exact sameKinds_get h.2 k a b (by simpa using ha) (by simpa using hb)
theorem boxesOf_st {ids : List Nat} {cs : List SE} {bs : List (Nat × SE)} (hg : getL st ids = some cs) (h : boxesOf ids cs = some bs) (k r : Nat) (e : SE) (hk : bs[k]? = some (r, e)) :
    r ∈ ids ∧ ∃ e0, st r = some e0 ∧ e0.isRow = false ∧ e0.kind = e.kind := by
  obtain ⟨h1, ⟨l, l', h2, _, rfl⟩ | ⟨T, t, s, h2, rfl⟩⟩ := boxesOf_get hg h k r e hk
  · exact ⟨h1, _, h2, rfl, rfl⟩
  · exact ⟨h1, _, h2, rfl, rfl⟩
theorem givP_sound {r : Nat} {ge : GE} {X' : Cx} {γ' : Gh} (hγ : γ r = some ge) (hγ' : γ' 0 = some ge) {p q : PV} {v : Value} (h : Rep X γ w p v) (hl : givP r p = some q) : Rep X' γ' w q v := by
  unfold givP at hl
  split at hl
  · rename_i r'
    split at hl
    · rename_i hb
      have := Nat.eq_of_beq_eq_true hb
      subst this
      injection hl with hl; subst hl
      cases h with
      | os _ ge' hg h1 h2 =>
        rw [hγ] at hg; injection hg with hg; subst hg
        exact .os 0 ge hγ' h1 h2
    · cases hl
  · injection hl with hl; subst hl; cases h.int_inv; exact .int _ _
  · injection hl with hl; subst hl; cases h.bool_inv; exact .bool _
  · injection hl with hl; subst hl; cases h.str_inv; exact .str _
  · cases hl
theorem givL_sound {r : Nat} {ge : GE} {X' : Cx} {γ' : Gh} (hγ : γ r = some ge) (hγ' : γ' 0 = some ge) : ∀ {ps qs : List PV} {vs : List Value}, RepL X γ w ps vs → givL r ps = some qs → RepL X' γ' w qs vs
  | [], qs, vs, h, hl => by
    simp only [givL, Option.some.injEq] at hl; subst hl
    cases h.nil_inv; exact RepL.nil_
  | p :: ps, qs, vs, h, hl => by
    obtain ⟨u, us', rfl, hu, hus⟩ := h.cons_inv
    simp only [givL] at hl
    split at hl
    · rename_i q qs' hq hqs
      injection hl with hl; subst hl
      exact RepL.cons_ (givP_sound hγ hγ' hu hq) (givL_sound hγ hγ' hus hqs)
    · cases hl
theorem give_sound {args : List PV} {ids : List Nat} {cs : List SE} {c : CallRes} {E : Eff} {d : Nat} {id : FuncId} {vals : List Value} (hst : RepSt X γ w st) (hX : ∀ b, X.as b ∨ X.ls b → b < w.heap.size) (hlo : X.lo ≤ w.heap.size)
    (hrl : ∀ r ge b τ e z n f, γ r = some ge → st r = some (.row τ e z n f) → ge.blk = some b → X.my b) (ha : RepL X γ w args vals) (hg : getL st ids = some cs) (hgv : natIn id givers = true)
    (hE : (match givA id args ids cs with
      | some (id, args', bs) => match natIn id givers with
        | true => givV (ids.headD 0) (PureCall P id args' (bs.map (·.2)) c) c.val c.st c.news
        | false => if c.news.length ≤ 16 ∧ c.st.length = bs.length ∧ sameKinds (bs.map (·.2)) c.st = true ∧ c.st.any SE.isRow = false ∧ bs.length ≤ newBase ∧ (cs.any SE.isRow = true → PV.freshB c.val = true ∧ c.st.all SE.freshB = true ∧ c.news.all SE.freshB = true) then
            some ⟨PV.ren (backName bs d) c.val, [PureCall P id args' (bs.map (·.2)) c], (bs.map (·.1)).zip (c.st.map (SE.ren (backName bs d))), c.news.map (SE.ren (backName bs d)), [], []⟩
          else none
      | none => none) = some E) (hs : allP E.side) (hnew : newSt d E.kill E.rm E.wr E.nw st = some st') :
    (∃ fn, P.funcs[id]? = some fn ∧ fn.body.isSome = true ∧ (fn.name == "runtime.NumGoroutine") = false) ∧ Calls P id vals.toArray w fun e w' => ∃ v γ'', e = .returned v ∧ EffOK X γ w st E v w' γ'' st' := by
  cases hga : givA id args ids cs with
  | none => rw [hga] at hE; cases hE
  | some x =>
    rw [hga] at hE
    unfold givA at hga
    split at hga
    · rename_i r τ e z n f
      split at hga
      · rename_i a hl
        injection hga with hga; subst hga
        simp only [hgv] at hE
        unfold givV at hE
        split at hE
        · rename_i b τ' e' z' n' f' hval hcst hnews
          split at hE
          · rename_i hb
            have hbe := Nat.eq_of_beq_eq_true hb
            subst hbe
            simp only [List.headD_cons] at hE
            injection hE with hE; subst hE
            obtain ⟨⟨hfn, hcall⟩, _⟩ := hs
            refine ⟨hfn, ?_⟩
            obtain ⟨e0, he0, he1⟩ := getL_one hg
            injection he1 with he1 _
            subst he1
            obtain ⟨ge, hge⟩ := hst.get he0
            obtain ⟨vs0, h1, h2, h3, h4, h5, h6, h7, h8⟩ := hst.at_ r ge _ hge he0
            let γc : Gh := fun k => if k = 0 then some ge else none
            let aas' : Nat → Prop := fun b => b < w.heap.size ∧ mayLie X γ 1 b
            let ls' : Nat → Prop := fun b => b < w.heap.size ∧ ∃ τ, mayLie X γ τ b
            let X' : Cx := ⟨w.heap.size, aas', ls', 0, γc⟩
            have hγc : ∀ k g, γc k = some g → k = 0 ∧ g = ge := fun k g hk => by
              by_cases h0 : k = 0
              · refine ⟨h0, ?_⟩; simp [γc, h0] at hk; exact hk.symm
              · simp [γc, h0] at hk
            have hcown : ∀ b, γc.own b → ge.has b := fun b ⟨k, g, hk, hb⟩ => by
              obtain ⟨_, rfl⟩ := hγc k g hk; exact hb
            have hcown' : ∀ b, γc.own b → γ.own b := fun b hb => ⟨r, ge, hge, hcown b hb⟩
            have hL : Lent X X' γ γc w := ⟨fun b hb hm => ⟨fun ho => hm.1 (hcown' b ho), .inr (.inl ⟨Nat.le_refl _, hb, hm⟩)⟩,
              fun τ b hb hm => ⟨fun ho => hm.1 (hcown' b ho), .inr (.inr ⟨Nat.le_refl _, hb, τ, hm⟩)⟩⟩
            have hstc : RepSt X' γc w (fun k => ([.row (lendT τ) e z n f] : List SE)[k]?) := by
              refine ⟨fun k => ?_, fun k g e2 hk he => ?_, fun k k' g g' b hk hk' _ _ => ?_, fun b hb => ⟨fun ha => ha.2.1 (hcown' b hb), fun ⟨_, τ, hm⟩ => hm.1 (hcown' b hb)⟩, fun b hb => hst.lt b (hcown' b hb), fun b p hb => ⟨(hst.glob b p hb).1, fun ho => (hst.glob b p hb).2.1 (hcown' b ho), ?_⟩⟩
              · cases k <;> simp [γc]
              · obtain ⟨rfl, rfl⟩ := hγc k g hk
                simp only [List.getElem?_cons_zero, Option.some.injEq] at he
                subst he
                refine ⟨vs0, h1, h2, h3, h4, h5, h6, h7, fun i j c u hi hc hu => ?_⟩
                have hfl := h7 i hi c (List.mem_of_getElem? hc)
                have hle : lendT (c.mark τ).tau ≤ lendT τ := lendT_mono (tau_mark c τ)
                have := (h8 i j c u hi hc hu).lend hL (flat_mark hfl τ) (lendT τ) hle
                rwa [mark_mark] at this
              · rw [(hγc k g hk).1, (hγc k' g' hk').1]
              · obtain ⟨⟨o, k1, _⟩, k3, k4⟩ := hst.glob b p hb
                exact ⟨(Array.getElem?_eq_some_iff.1 k1).1, k3, .inr (.inl ⟨Nat.le_refl _, k4⟩)⟩
            refine (hcall w γc aas' ls' _ hstc (fun b hb => hb.elim (fun h => h.1) (fun h => h.1)) (givL_sound hge rfl ha hl)).mono ?_
            rintro e2 w' ⟨v, γ', he, hv, hst', hk, _, hown0⟩
            rw [hval] at hv
            have hres : resSt c newBase = some (.row τ' e' z' n' f') := by unfold resSt; rw [if_pos (Nat.le_refl _), Nat.sub_self, hnews]; rfl
            have hdom : ∀ k g, γ' k = some g → k = newBase := fun k g hk => by
              have hd := hst'.dom k
              rw [hk] at hd
              unfold resSt at hd
              split at hd
              · rename_i hge2
                rw [hnews] at hd
                by_cases h0 : k - newBase = 0
                · omega
                · obtain ⟨m, hm⟩ := Nat.exists_eq_succ_of_ne_zero h0
                  rw [hm] at hd; simp at hd
              · rw [hcst] at hd; simp at hd
            obtain ⟨ge', hge', rfl⟩ := os_inv hv
            obtain ⟨vs1, k1, k2, k3, k4, k5, k6, k7, k8⟩ := hst'.at_ newBase ge' _ hge' hres
            have hfr : ∀ b, ge'.has b → ge.blk = some b ∨ w.heap.size ≤ b := fun b hb => by
              rcases hown0 newBase ge' b hge' hb with h | ⟨_, h⟩ | ⟨g0, h, _⟩
              · exact .inr h
              · exact .inl ((GE.has_row h2).1 (hcown b h))
              · exact absurd (hγc _ _ h).1 (by decide)
            have hown' : ∀ b, γ'.own b → ge'.has b := fun b ⟨k, g, hk, hb⟩ => by
              have := hdom k g hk; subst this
              rw [hge'] at hk; injection hk with hk; subst hk; exact hb
            refine ⟨_, upd γ r ge', he, ?_⟩
            have hnew' : st' = upd (voidS [r] st) r (.row τ' e' z' n' f') := by
              simp only [newSt_eq, wrS, nwS, rmS_nil, Option.some.injEq] at hnew
              exact hnew.symm
            rw [hnew']
            refine EffOK.app hst hX hge he0 (fun l hl => by cases hl) rfl (hk.mono fun i _ h => (GE.has_row h2).1 (hcown i h)) (fun b hb => hfr b (.inl hb)) (fun b hb => hst'.lt b ⟨newBase, ge', hge', .inl hb⟩) (fun hmono => ?_) (.os r ge' (upd_same _ _ _) k3 k2) (hgr := k2)
            refine ⟨vs1, k1, k2, k3, k4, k5, k6, k7, fun i j c' u hi hc hu => ?_⟩
            have hfl := k7 i hi c' (List.mem_of_getElem? hc)
            have := (k8 i j c' u hi hc hu).back (nr := true) (γ := upd γ r ge') (X := X) (ρ := fun _ => r) (fun q g hq => by
                have hqq := hdom q g hq
                rw [hqq] at hq
                rw [← Option.some.inj (hge'.symm.trans hq)]
                exact upd_same _ _ _) (fun τ2 b _ hbl hm => by
              have hno : ¬ Gh.own (upd γ r ge') b ↔ ((∀ x g, x ≠ r → γ x = some g → ¬ g.has b) ∧ ¬ ge'.has b) := by
                constructor
                · intro h
                  exact ⟨fun x g hx hg hb => h ⟨x, g, by rw [upd_ne γ _ hx]; exact hg, hb⟩, fun hb => h ⟨r, ge', upd_same _ _ _, hb⟩⟩
                · rintro ⟨q1, q2⟩ ⟨x, g, hg, hb⟩
                  by_cases hx : x = r
                  · subst hx; rw [upd_same] at hg; injection hg with hg; subst hg; exact q2 hb
                  · rw [upd_ne γ _ hx] at hg; exact q1 x g hx hg hb
              have hn' : ¬ ge'.has b := fun hb => hm.1 ⟨newBase, ge', hge', hb⟩
              rcases hm.2 with (hm2 | ⟨_, r0, g0, q1, q2⟩) | ⟨ht, hb1, hm2⟩ | ⟨ht, hb1, τ3, hm2⟩
              · have hm2' : w.heap.size ≤ b := hm2
                exact ⟨hno.2 ⟨fun x g _ hg hb => absurd (hst.lt b ⟨x, g, hg, hb⟩) (by omega), hn'⟩, .inl (.inl (Nat.le_trans hlo hm2'))⟩
              · have q3 : ge.has b := by
                  have q1' : γc r0 = some g0 := q1
                  obtain ⟨_, rfl⟩ := hγc _ _ q1'; exact q2
                exact ⟨hno.2 ⟨fun x g hx hg hb => hx (hst.inj x r g ge b hg hge hb q3), hn'⟩, .inl (hrl r ge b _ _ _ _ _ hge he0 ((GE.has_row h2).1 q3))⟩
              · exact ⟨hno.2 ⟨fun x g _ hg hb => hm2.1 ⟨x, g, hg, hb⟩, hn'⟩, (hm2.mono ht).2⟩
              · refine ⟨hno.2 ⟨fun x g _ hg hb => hm2.1 ⟨x, g, hg, hb⟩, hn'⟩, ?_⟩
                rcases hm2.2 with h | ⟨_, h⟩ | ⟨_, h⟩
                · exact .inl h
                · exact .inr (.inl ⟨by omega, h⟩)
                · exact .inr (.inr ⟨ht, h⟩)) (.inl rfl)
            rwa [flat_ren hfl] at this
          · cases hE
        · cases hE
      · cases hga
    · cases hga
theorem call_sound {f : PV} {args : List PV} {ids : List Nat} {cs : List SE} {c : CallRes} {E : Eff} {d : Nat} {fv : Value} {avs : List Value} (hst : RepSt X γ w st) (hX : ∀ b, X.as b ∨ X.ls b → b < w.heap.size) (hlo : X.lo ≤ w.heap.size) (hrl : ∀ r ge b τ e z n f, γ r = some ge → st r = some (.row τ e z n f) → ge.blk = some b → X.my b)
    (hf : Rep X γ w f fv) (ha : RepL X γ w args avs) (hn : ids.Nodup) (hg : getL st ids = some cs) (hE : callV (PureCall P) d c f args ids cs = some E) (hs : allP E.side) (hnew : newSt d E.kill E.rm E.wr E.nw st = some st') :
    ∃ id first caps, fv = .func (.func id) first caps ∧ (∃ fn, P.funcs[id]? = some fn ∧ fn.body.isSome = true ∧ (fn.name == "runtime.NumGoroutine") = false) ∧
      Calls P id ((first ++ avs.toArray) ++ caps) w fun e w' => ∃ v γ'', e = .returned v ∧ EffOK X γ w st E v w' γ'' st' := by
  unfold callV callA at hE
  cases f with
  | fn fk first caps =>
    cases fk with
    | func id =>
      cases hf with
      | fn _ _ _ fvs cvs hfl hcl hfr hcr =>
      simp only at hE
      cases hgv : natIn id givers with
      | true =>
        rw [hgv] at hE
        simp only at hE
        obtain ⟨h1, h2⟩ := give_sound hst hX hlo hrl ((RepL.append ⟨hfl, hfr⟩ ha).append ⟨hcl, hcr⟩) hg hgv hE hs hnew
        refine ⟨id, _, _, rfl, h1, ?_⟩
        have hvals : ((fvs.toArray ++ avs.toArray) ++ cvs.toArray) = ((fvs ++ avs) ++ cvs).toArray := by simp
        rw [hvals]
        exact h2
      | false =>
      rw [hgv] at hE
      simp only at hE
      cases hla : lendL ids cs (first ++ args ++ caps) with
      | none => rw [hla] at hE; cases hE
      | some args' =>
      cases hbs : boxesOf ids cs with
      | none => rw [hla, hbs] at hE; cases hE
      | some bs =>
      rw [hla, hbs] at hE
      simp only [hgv] at hE
      split at hE
      · rename_i hcond
        obtain ⟨_, hc1, hks, hc2, hc3, hc4⟩ := hcond
        injection hE with hE; subst hE
        obtain ⟨hpc, _⟩ := hs
        obtain ⟨hfn, hcall⟩ := hpc
        refine ⟨id, _, _, rfl, hfn, ?_⟩
        -- the callee's view
        let γc : Gh := fun k => if k < bs.length then (bs[k]?).bind (fun x => γ x.1) else none
        let aas' : Nat → Prop := fun b => b < w.heap.size ∧ mayLie X γ 1 b
        let ls' : Nat → Prop := fun b => b < w.heap.size ∧ ((∃ τ, mayLie X γ τ b) ∨ ∃ r ge τ e z n f, r ∈ ids ∧ γ r = some ge ∧ st r = some (.row τ e z n f) ∧ ge.blk = some b)
        let X' : Cx := ⟨w.heap.size, aas', ls', nbx (bs.map (·.2)), γc⟩
        have hblen : nbx (bs.map (·.2)) = bs.length := by
          rw [nbx_rows, List.length_map]
          refine List.any_eq_false.2 fun e he => ?_
          obtain ⟨⟨r, e'⟩, hm, rfl⟩ := List.mem_map.1 he
          obtain ⟨k, hk⟩ := List.getElem?_of_mem hm
          obtain ⟨_, e0, _, h3, h4⟩ := boxesOf_st hg hbs k r e' hk
          cases e' with
          | row _ _ _ _ _ => cases e0 <;> simp [SE.isRow, SE.kind] at h3 h4
          | _ => simp [SE.isRow]
        have hγc : ∀ k r e, bs[k]? = some (r, e) → γc k = γ r := fun k r e hk => by
          have : k < bs.length := (List.getElem?_eq_some_iff.1 hk).1
          show (if k < bs.length then (bs[k]?).bind (fun x => γ x.1) else none) = _
          rw [if_pos this, hk]; rfl
        have hγc' : ∀ k ge, γc k = some ge → ∃ r e, bs[k]? = some (r, e) ∧ γ r = some ge := fun k ge hk => by
          by_cases hlt : k < bs.length
          · have hb : bs[k]? = some (bs[k].1, bs[k].2) := List.getElem?_eq_getElem hlt
            exact ⟨_, _, hb, by rw [← hγc k _ _ hb]; exact hk⟩
          · simp [γc, hlt] at hk
        have hcown : ∀ b, γc.own b → ∃ r ge, r ∈ ids ∧ (∃ e0, st r = some e0 ∧ e0.isRow = false) ∧ γ r = some ge ∧ ge.has b := fun b ⟨k, ge, hk, hb⟩ => by
          obtain ⟨r, e, hbk, hr⟩ := hγc' k ge hk
          obtain ⟨h1, e0, h2, h3, _⟩ := boxesOf_st hg hbs k r e hbk
          exact ⟨r, ge, h1, ⟨e0, h2, h3⟩, hr, hb⟩
        have hcown' : ∀ b, γc.own b → γ.own b := fun b hb => by
          obtain ⟨r, ge, _, _, h1, h2⟩ := hcown b hb; exact ⟨r, ge, h1, h2⟩
        have hL : Lent X X' γ γc w := ⟨fun b hb hm => ⟨fun ho => hm.1 (hcown' b ho), .inr (.inl ⟨Nat.le_refl _, hb, hm⟩)⟩,
          fun τ b hb hm => ⟨fun ho => hm.1 (hcown' b ho), .inr (.inr ⟨Nat.le_refl _, hb, .inl ⟨τ, hm⟩⟩)⟩⟩
        have hrowb : ∀ r ge τ e z n f, r ∈ ids → γ r = some ge → st r = some (.row τ e z n f) → ∀ b, ge.blk = some b → ¬ γc.own b := fun r ge τ e z n f hr hge hsr b hb ho => by
          obtain ⟨r', ge', _, ⟨e0, hl, hl2⟩, h1, h2⟩ := hcown b ho
          have := hst.inj r r' ge ge' b hge h1 (.inl hb) h2
          subst this
          rw [hsr] at hl; injection hl with hl; subst hl; cases hl2
        have hrow : ∀ r ge τ e z n f, r ∈ ids → γ r = some ge → st r = some (.row τ e z n f) → ∀ b, ge.blk = some b → mayLie X' γc 2 b := fun r ge τ e z n f hr hge hsr b hb =>
          ⟨hrowb r ge τ e z n f hr hge hsr b hb, .inr (.inr ⟨Nat.le_refl _, hst.lt b ⟨r, ge, hge, .inl hb⟩, .inr ⟨r, ge, τ, e, z, n, f, hr, hge, hsr, hb⟩⟩)⟩
        have hargs : RepL X' γc w args' ((fvs ++ avs) ++ cvs) := lendL_sound hst hg hbs hL hγc hrow ((RepL.append ⟨hfl, hfr⟩ ha).append ⟨hcl, hcr⟩) hla
        have hstc : RepSt X' γc w (fun r => (bs.map (·.2))[r]?) := by
          refine ⟨fun r => ?_, fun r ge e hgr her => ?_, fun r r' ge ge' b hgr hgr' hb hb' => ?_, fun b hb => ⟨fun ha => ?_, fun ha => ?_⟩, fun b hb => hst.lt b (hcown' b hb), fun b p hb => ⟨(hst.glob b p hb).1, fun ho => (hst.glob b p hb).2.1 (hcown' b ho), by
            obtain ⟨⟨o, h1, _⟩, h3, h4⟩ := hst.glob b p hb
            exact ⟨(Array.getElem?_eq_some_iff.1 h1).1, h3, .inr (.inl ⟨Nat.le_refl _, h4⟩)⟩⟩⟩
          · by_cases hlt : r < bs.length
            · have hb : bs[r]? = some (bs[r].1, bs[r].2) := List.getElem?_eq_getElem hlt
              obtain ⟨_, _, h2, _⟩ := boxesOf_st hg hbs r _ _ hb
              have hd := hst.dom bs[r].1
              rw [h2] at hd
              rw [hγc r _ _ hb, hd]
              simp [hlt]
            · simp [γc, hlt]
          · obtain ⟨r0, e0, hbk, hr0⟩ := hγc' r ge hgr
            simp only [List.getElem?_map, hbk, Option.map_some, Option.some.injEq] at her
            subst her
            obtain ⟨_, ⟨l, l', h2, h3, rfl⟩ | ⟨T, t, s, h2, rfl⟩⟩ := boxesOf_get hg hbs r r0 _ hbk
            · obtain ⟨b, k1, k2⟩ := hst.at_ r0 ge _ hr0 h2
              refine ⟨b, k1, k2.map_ rfl (fun us k4 => lendCells_sound hL k4 h3) (fun _ _ _ _ _ _ k4 => ?_)⟩
              rw [k4] at h3
              simp only [lendCells, lendCell, Option.some.injEq] at h3
              exact h3.symm
            · exact hst.at_ r0 ge _ hr0 h2
          · obtain ⟨r0, e0, hbk, hr0⟩ := hγc' r ge hgr
            obtain ⟨r1, e1, hbk1, hr1⟩ := hγc' r' ge' hgr'
            have hrr := hst.inj r0 r1 ge ge' b hr0 hr1 hb hb'
            subst hrr
            have hnd := boxesOf_nodup hg hn hbs
            have q1 : (bs.map (·.1))[r]? = some r0 := by simp [hbk]
            have q2 : (bs.map (·.1))[r']? = some r0 := by simp [hbk1]
            exact (List.getElem?_inj (by rw [List.length_map]; exact (List.getElem?_eq_some_iff.1 hbk).1) hnd).1 (q1.trans q2.symm)
          · exact ha.2.1 (hcown' b hb)
          · rcases ha.2 with ⟨τ, hm⟩ | ⟨r, ge, τ, e, z, n, f, hr, hge, hsr, hb'⟩
            · exact hm.1 (hcown' b hb)
            · exact hrowb r ge τ e z n f hr hge hsr b hb' hb
        have hvals : ((fvs.toArray ++ avs.toArray) ++ cvs.toArray) = ((fvs ++ avs) ++ cvs).toArray := by simp
        rw [hvals]
        refine (hcall w γc aas' ls' _ hstc (fun b hb => hb.elim (fun h => h.1) (fun h => h.1)) hargs).mono ?_
        rintro e w' ⟨v, γ', he, hval, hst', hk, hpar, hownE0⟩
        have hno0 : nbx (bs.map (·.2)) = 0 → ∀ r ge, γc r = some ge → False := fun h0 r ge hr => by
          obtain ⟨r1, e1, hb1, _⟩ := hγc' r ge hr
          have := (List.getElem?_eq_some_iff.1 hb1).1
          omega
        have hownE' : ∀ r ge b, γ' r = some ge → ge.has b → w.heap.size ≤ b ∨ ∃ ge0, γc r = some ge0 ∧ ge0.has b := fun r ge b h1 h2 => by
          rcases hownE0 r ge b h1 h2 with h | ⟨h, r1, ge1, h3, _⟩ | h
          · exact .inl h
          · exact (hno0 h r1 ge1 h3).elim
          · exact .inr h
        -- back
        let nr : Bool := !cs.any SE.isRow
        let ρ := backName bs d
        have hown' : ∀ b, γ'.own b → γc.own b ∨ w.heap.size ≤ b := fun b ⟨r, ge, hr, hb⟩ => by
          rcases hownE' r ge b hr hb with h | ⟨ge0, h1, h2⟩
          · exact .inr h
          · exact .inl ⟨r, ge0, h1, h2⟩
        haveI : ∀ r, Decidable (∃ (k r0 : Nat) (e0 : SE), bs[k]? = some (r0, e0) ∧ r = r0) := fun _ => Classical.propDecidable _
        let γ'' : Gh := fun r => if d ≤ r ∧ r < d + c.news.length then γ' (newBase + (r - d)) else
          if h : ∃ (k r0 : Nat) (e0 : SE), bs[k]? = some (r0, e0) ∧ r = r0 then γ' (Classical.choose h) else γ r
        have hnd0 := boxesOf_nodup hg hn hbs
        have hsel : ∀ (k r : Nat) (e0 : SE), bs[k]? = some (r, e0) → ¬ (d ≤ r ∧ r < d + c.news.length) → γ'' r = γ' k := fun k r e0 hbk hni => by
          have h : ∃ (k r0 : Nat) (e0 : SE), bs[k]? = some (r0, e0) ∧ r = r0 := ⟨k, r, e0, hbk, rfl⟩
          have hc : Classical.choose h = k := by
            obtain ⟨r0, e1, h1, h2⟩ := Classical.choose_spec h
            subst h2
            have q1 : (bs.map (·.1))[Classical.choose h]? = some r := by rw [List.getElem?_map, h1]; rfl
            have q2 : (bs.map (·.1))[k]? = some r := by rw [List.getElem?_map, hbk]; rfl
            exact (List.getElem?_inj (by rw [List.length_map]; exact (List.getElem?_eq_some_iff.1 h1).1) hnd0).1 (q1.trans q2.symm)
          have : γ'' r = γ' (Classical.choose h) := by simp only [γ'']; rw [if_neg hni, dif_pos h]
          rw [this, hc]
        have hunsel : ∀ r, ¬ (d ≤ r ∧ r < d + c.news.length) → (¬ ∃ (k r0 : Nat) (e0 : SE), bs[k]? = some (r0, e0) ∧ r = r0) → γ'' r = γ r := fun r hni h => by
          simp only [γ'']; rw [if_neg hni, dif_neg h]
        simp only [newSt_eq, voidS_nil, rmS_nil] at hnew
        obtain ⟨hnw1, hnw2⟩ := nwS_get _ _ _ _ hnew
        have hids1 : ∀ k r e, bs[k]? = some (r, e) → ∃ ge, γ r = some ge := fun k r e hk => by
          obtain ⟨_, _, h2, _⟩ := boxesOf_st hg hbs k r e hk
          have := hst.dom r
          rw [h2] at this
          exact Option.isSome_iff_exists.1 this
        have hwrd : ((((bs.map (·.1)).zip (c.st.map (SE.ren ρ))).map (·.1))).Nodup := by
          rw [List.map_fst_zip (by simp [hc1])]
          exact boxesOf_nodup hg hn hbs
        have hwrn : ∀ r, st r = none → wrS ((bs.map (·.1)).zip (c.st.map (SE.ren ρ))) st r = none := fun r hr => by
          rw [wrS_other _ _ _ (fun x hx hxr => ?_)]
          · exact hr
          · have hm := (List.of_mem_zip hx).1
            obtain ⟨⟨r0, e0⟩, hm0, hr0⟩ := List.mem_map.1 hm
            obtain ⟨k, hk'⟩ := List.getElem?_of_mem hm0
            obtain ⟨_, _, h2, _⟩ := boxesOf_st hg hbs k r0 e0 hk'
            simp only at hr0
            rw [hr0, hxr, hr] at h2; cases h2
        have hnewn : ∀ k, k < c.news.length → st (d + k) = none := fun k hk' => by
          have hk2 : (c.news.map (SE.ren ρ))[k]? = some ((c.news.map (SE.ren ρ))[k]'(by simpa using hk')) := List.getElem?_eq_getElem (by simpa using hk')
          have h1 := (hnw1 k _ hk2).2
          cases hs : st (d + k) with
          | none => rfl
          | some e0 =>
            -- an entry that is there stays there when boxes are written
            exfalso
            by_cases hin : ∃ x ∈ (bs.map (·.1)).zip (c.st.map (SE.ren ρ)), x.1 = d + k
            · obtain ⟨⟨x1, x2⟩, hx, hx1⟩ := hin
              simp only at hx1; subst hx1
              rw [wrS_at _ _ _ _ hwrd hx] at h1; cases h1
            · rw [wrS_other _ _ _ (fun x hx hxr => hin ⟨x, hx, hxr⟩), hs] at h1; cases h1
        have hγn : ∀ k, k < c.news.length → γ (d + k) = none := fun k hk' => by
          have := hst.dom (d + k)
          rw [hnewn k hk'] at this
          cases hgd : γ (d + k) with
          | none => rfl
          | some _ => rw [hgd] at this; cases this
        have hnin : ∀ r ge, γ r = some ge → ¬ (d ≤ r ∧ r < d + c.news.length) := fun r ge hr hin => by
          have := hγn (r - d) (by omega)
          rw [show d + (r - d) = r from by omega, hr] at this; cases this
        have hkind : ∀ (k r : Nat) (e0 : SE), bs[k]? = some (r, e0) → ∃ e1 ge, c.st[k]? = some e1 ∧ e1.kind = e0.kind ∧ e1.isRow = false ∧ γ r = some ge ∧ ParOK (γ' k) (γ r) (some e1) := fun k r e0 hbk => by
          have hlt : k < c.st.length := by rw [hc1]; exact (List.getElem?_eq_some_iff.1 hbk).1
          have h1 : c.st[k]? = some c.st[k] := List.getElem?_eq_getElem hlt
          obtain ⟨ge, hge⟩ := hids1 k r e0 hbk
          have hp := hpar k (by rw [hblen]; exact (List.getElem?_eq_some_iff.1 hbk).1)
          have hrs : resSt c k = some c.st[k] := by unfold resSt; rw [if_neg (by have := (List.getElem?_eq_some_iff.1 hbk).1; omega)]; exact h1
          rw [hrs, hγc k r e0 hbk] at hp
          have h2 := sameKinds_get hks k e0 c.st[k] (by rw [List.getElem?_map, hbk]; rfl) h1
          have h3 : c.st[k].isRow = false := by
            have := List.any_eq_false.1 hc2 _ (List.getElem_mem hlt)
            simpa using this
          exact ⟨_, ge, h1, h2.symm, h3, hge, hp⟩
        have hold : ∀ r ge, γ r = some ge → ∃ ge', γ'' r = some ge' ∧ ge.le ge' := fun r ge hr => by
          by_cases hb : ∃ (k r0 : Nat) (e0 : SE), bs[k]? = some (r0, e0) ∧ r = r0
          · obtain ⟨k, r0, e0, hbk, rfl⟩ := hb
            obtain ⟨e1, ge1, h1, h2, h3, h4, h5⟩ := hkind k r e0 hbk
            rw [hsel k r e0 hbk (hnin r ge hr)]
            cases e1 with
            | box l => exact ⟨ge, by rw [show γ' k = γ r from h5]; exact hr, rfl, rfl, fun _ => rfl⟩
            | row _ _ _ _ _ => cases h3
            | bld T t s =>
              obtain ⟨g1, g0, k1, k2, k3, k4⟩ := h5
              rw [hr] at k2; injection k2 with k2; subst k2
              refine ⟨g1, k1, k3, k4, fun hbad => ?_⟩
              exfalso
              obtain ⟨_, e2, q1, _, q2⟩ := boxesOf_st hg hbs k r e0 hbk
              cases e2 with
              | bld T2 t2 s2 =>
                obtain ⟨b, p, v, m1, m2, _, _, _, m3⟩ := hst.at_ r ge _ hr q1
                rw [m1, m2] at hbad
                exact m3 hbad.symm
              | box _ => rw [← q2] at h2; cases h2
              | row _ _ _ _ _ => rw [← q2] at h2; cases h2
          · exact ⟨ge, by rw [hunsel r (hnin r ge hr) hb]; exact hr, rfl, rfl, fun _ => rfl⟩
        have hdom' : ∀ r, (γ' r).isSome = (resSt c r).isSome := hst'.dom
        have hback : ∀ r ge, γ' r = some ge → γ'' (ρ r) = some ge := fun r ge hr => by
          have hd := hdom' r
          rw [hr] at hd
          unfold resSt at hd
          by_cases hnb : newBase ≤ r
          · rw [if_pos hnb] at hd
            have hlt : r - newBase < c.news.length := by
              rcases Nat.lt_or_ge (r - newBase) c.news.length with h | h
              · exact h
              · rw [List.getElem?_eq_none h] at hd; cases hd
            have hρ : ρ r = d + (r - newBase) := by simp [ρ, backName, hnb]
            rw [hρ]
            have hin : d ≤ d + (r - newBase) ∧ d + (r - newBase) < d + c.news.length := by omega
            simp only [γ'', hin, and_self, if_true]
            rw [show newBase + (d + (r - newBase) - d) = r from by omega]
            exact hr
          · rw [if_neg hnb] at hd
            have hlt : r < bs.length := by
              rw [← hc1]
              rcases Nat.lt_or_ge r c.st.length with h | h
              · exact h
              · rw [List.getElem?_eq_none h] at hd; cases hd
            have hb : bs[r]? = some (bs[r].1, bs[r].2) := List.getElem?_eq_getElem hlt
            have hρ : ρ r = bs[r].1 := by simp [ρ, backName, hnb, hlt]
            rw [hρ]
            obtain ⟨ge0, hge0⟩ := hids1 r _ _ hb
            rw [hsel r _ _ hb (hnin _ ge0 hge0)]
            exact hr
        have hown'' : ∀ b, γ''.own b → γ.own b ∨ γ'.own b := fun b ⟨r, ge, hr, hb⟩ => by
          by_cases hin : d ≤ r ∧ r < d + c.news.length
          · simp only [γ'', hin, and_self, if_true] at hr; exact .inr ⟨_, ge, hr, hb⟩
          · by_cases hbb : ∃ (k r0 : Nat) (e0 : SE), bs[k]? = some (r0, e0) ∧ r = r0
            · obtain ⟨k, r0, e0, hbk, rfl⟩ := hbb
              rw [hsel k r e0 hbk hin] at hr; exact .inr ⟨k, ge, hr, hb⟩
            · rw [hunsel r hin hbb] at hr; exact .inl ⟨r, ge, hr, hb⟩
        have hownE'' : ∀ r ge b, γ'' r = some ge → ge.has b → w.heap.size ≤ b ∨ ∃ ge0, γ r = some ge0 ∧ ge0.has b := fun r ge b hr hb => by
          by_cases hin : d ≤ r ∧ r < d + c.news.length
          · simp only [γ'', hin, and_self, if_true] at hr
            rcases hownE' _ ge b hr hb with h | ⟨ge0, h1, _⟩
            · exact .inl h
            · obtain ⟨r1, e1, hb1, _⟩ := hγc' _ ge0 h1
              have := (List.getElem?_eq_some_iff.1 hb1).1
              omega
          · by_cases hbb : ∃ (k r0 : Nat) (e0 : SE), bs[k]? = some (r0, e0) ∧ r = r0
            · obtain ⟨k, r0, e0, hbk, rfl⟩ := hbb
              rw [hsel k r e0 hbk hin] at hr
              rw [← hγc k r e0 hbk]
              exact hownE' k ge b hr hb
            · rw [hunsel r hin hbb] at hr; exact .inr ⟨ge, hr, hb⟩
        have hown3 : ∀ b, γ''.own b → γ.own b ∨ w.heap.size ≤ b := fun b hb => (hown'' b hb).elim .inl fun h => (hown' b h).imp (hcown' b) (fun h => h)
        have hlie : ∀ τ b, (nr = true ∨ τ ≤ 1) → b < w'.heap.size → mayLie X' γ' τ b → mayLie X γ'' τ b := fun τ b hnr hbl hm => by
          obtain ⟨hm1, hm2⟩ := hm
          rcases hm2 with (hm2 | ⟨h0, r0, ge0, h1, _⟩) | ⟨ht, hb1, hm2⟩ | ⟨ht, hb1, hm2⟩
          · exact ⟨fun ho => (hown'' b ho).elim (fun h => absurd (hst.lt b h) (Nat.not_lt.2 hm2)) hm1, .inl (.inl (Nat.le_trans hlo hm2))⟩
          · exact (hno0 h0 r0 ge0 h1).elim
          · exact ⟨fun ho => (hown'' b ho).elim hm2.1 hm1, (hm2.mono ht).2⟩
          · rcases hm2 with ⟨τ', hm2⟩ | ⟨r, ge, τ0, e0, z0, n0, f0, hr, hge, hsr, hb⟩
            · refine ⟨fun ho => (hown'' b ho).elim hm2.1 hm1, ?_⟩
              rcases hm2.2 with h | ⟨h1, h2⟩ | ⟨h1, h2⟩
              · exact .inl h
              · exact .inr (.inl ⟨by omega, h2⟩)
              · exact .inr (.inr ⟨ht, h2⟩)
            · rcases hnr with hnr | hnr
              · exfalso
                obtain ⟨e1, he1, he2⟩ := getL_mem ids cs hg r hr
                rw [hsr] at he1; injection he1 with he1; subst he1
                have : cs.any SE.isRow = true := List.any_eq_true.2 ⟨_, he2, rfl⟩
                simp [nr, this] at hnr
              · omega
        have hfr : ∀ {q : Prop}, (cs.any SE.isRow = true → q) → nr = true ∨ q := fun {q} hq => by
          cases hh : cs.any SE.isRow with
          | false => left; simp [nr, hh]
          | true => exact .inr (hq hh)
        have hmono : ∀ p u, Rep X γ w p u → Rep X γ'' w' p u := fun p u h => h.monoG hold hown3 hk.size (fun b hb hlt => hk.block b hlt (fun ho => hb (hcown' b ho)))
        refine ⟨v, γ'', he, ⟨?_, fun p u h => by rw [void_nil]; exact hmono p u h, ?_, hk.mono (fun b _ h => hcown' b h), hownE'', fun r l hr => ?_, fun r T t s hr => ?_⟩⟩
        · exact hval.back hback hlie (hfr fun h => (hc4 h).1)
        · have hstat : ∀ r, (∃ k e, c.news[k]? = some e ∧ r = d + k ∧ st' r = some (e.ren ρ) ∧ γ'' r = γ' (newBase + k)) ∨ (∃ (k r0 : Nat) (e0 e : SE), bs[k]? = some (r0, e0) ∧ c.st[k]? = some e ∧ r = r0 ∧ st' r = some (e.ren ρ) ∧ γ'' r = γ' k) ∨ (st' r = st r ∧ γ'' r = γ r ∧ ∀ (k r0 : Nat) (e0 : SE), bs[k]? = some (r0, e0) → r ≠ r0) := fun r => by
            by_cases hin : d ≤ r ∧ r < d + c.news.length
            · left
              have hlt : r - d < c.news.length := by omega
              have hk2 : (c.news.map (SE.ren ρ))[r - d]? = some (c.news[r - d].ren ρ) := by simp [hlt]
              refine ⟨r - d, c.news[r - d], List.getElem?_eq_getElem hlt, by omega, ?_, ?_⟩
              · have := (hnw1 _ _ hk2).1
                rwa [show d + (r - d) = r from by omega] at this
              · simp only [γ'', hin, and_self, if_true]
            · right
              have hs1 : st' r = wrS ((bs.map (·.1)).zip (c.st.map (SE.ren ρ))) st r := hnw2 r (by rw [List.length_map]; omega)
              by_cases hb : ∃ (k r0 : Nat) (e0 : SE), bs[k]? = some (r0, e0) ∧ r = r0
              · left
                obtain ⟨k, r0, e0, hbk, rfl⟩ := hb
                have hlt : k < c.st.length := by rw [hc1]; exact (List.getElem?_eq_some_iff.1 hbk).1
                refine ⟨k, r, e0, c.st[k], hbk, List.getElem?_eq_getElem hlt, rfl, ?_, ?_⟩
                · rw [hs1]
                  refine wrS_at _ _ _ _ hwrd (List.mem_of_getElem? (i := k) ?_)
                  rw [List.getElem?_zip_eq_some]
                  exact ⟨by simp [hbk], by simp [hlt]⟩
                · exact hsel k r e0 hbk hin
              · right
                refine ⟨?_, hunsel r hin hb, fun k r0 e0 hbk hr => hb ⟨k, r0, e0, hbk, hr⟩⟩
                rw [hs1, wrS_other _ _ _ (fun x hx hxr => ?_)]
                obtain ⟨⟨r0, e0⟩, hm0, hr0⟩ := List.mem_map.1 (List.of_mem_zip hx).1
                obtain ⟨k, hk'⟩ := List.getElem?_of_mem hm0
                exact hb ⟨k, r0, e0, hk', by rw [← hxr]; exact hr0.symm⟩
          have hnews : ∀ k e, c.news[k]? = some e → resSt c (newBase + k) = some e := fun k e hk' => by
            unfold resSt; rw [if_pos (by omega), show newBase + k - newBase = k from by omega]; exact hk'
          have hres : ∀ k e, k < bs.length → c.st[k]? = some e → resSt c k = some e := fun k e hlt hk' => by
            unfold resSt; rw [if_neg (by omega)]; exact hk'
          refine ⟨fun r => ?_, fun r ge e hgr her => ?_, fun r r' ge ge' b hgr hgr' hb hb' => ?_, fun b hb => ?_, fun b hb => ?_, glob_keep hst.glob (fun b hlt ho => hk.block b hlt (fun h => ho (hcown' b h))) hown3⟩
          · rcases hstat r with ⟨k, e, h1, h2, h3, h4⟩ | ⟨k, r0, e0, e, h1, h2, h3, h4, h5⟩ | ⟨h1, h2, h3⟩
            · rw [h3, h4, hdom', hnews k e h1]; rfl
            · rw [h4, h5, hdom', hres k e (List.getElem?_eq_some_iff.1 h1).1 h2]; rfl
            · rw [h1, h2]; exact hst.dom r
          · rcases hstat r with ⟨k, e', h1, h2, h3, h4⟩ | ⟨k, r0, e0, e', h1, h2, h3, h4, h5⟩ | ⟨h1, h2, h3⟩
            · rw [h3] at her; injection her with her; subst her
              rw [h4] at hgr
              refine (hst'.at_ _ ge e' hgr (hnews k e' h1)).back hback hlie (hfr fun h => ?_)
              exact List.all_eq_true.1 (hc4 h).2.2 e' (List.mem_of_getElem? h1)
            · rw [h4] at her; injection her with her; subst her
              rw [h5] at hgr
              refine (hst'.at_ _ ge e' hgr (hres k e' (List.getElem?_eq_some_iff.1 h1).1 h2)).back hback hlie (hfr fun h => ?_)
              exact List.all_eq_true.1 (hc4 h).2.1 e' (List.mem_of_getElem? h2)
            · rw [h1] at her; rw [h2] at hgr
              refine (hst.at_ r ge e hgr her).mono hmono fun b hb => hk.block b (hst.lt b ⟨r, ge, hgr, hb⟩) (fun ho => ?_)
              obtain ⟨k, ge1, hk1, hb1⟩ := ho
              obtain ⟨r1, e1, hbk, hr1⟩ := hγc' k ge1 hk1
              exact h3 k r1 e1 hbk (hst.inj r r1 ge ge1 b hgr hr1 hb hb1)
          · -- the callee's name of an entry
            have hcal : ∀ r ge, γ'' r = some ge → (∃ k, γ' k = some ge ∧ ρ k = r) ∨ (γ r = some ge ∧ (∀ (k r0 : Nat) (e0 : SE), bs[k]? = some (r0, e0) → r ≠ r0)) := fun r ge hr => by
              rcases hstat r with ⟨k, e', h1, h2, h3, h4⟩ | ⟨k, r0, e0, e', h1, h2, h3, h4, h5⟩ | ⟨h1, h2, h3⟩
              · left; refine ⟨newBase + k, by rw [← h4]; exact hr, ?_⟩
                simp only [ρ, backName]; rw [if_pos (by omega), h2]; omega
              · left; refine ⟨k, by rw [← h5]; exact hr, ?_⟩
                have hlt := (List.getElem?_eq_some_iff.1 h1).1
                simp only [ρ, backName]; rw [if_neg (by omega), h1, h3]; rfl
              · right; exact ⟨by rw [← h2]; exact hr, h3⟩
            have hmix : ∀ r r' ge ge' k, γ' k = some ge → ρ k = r → γ r' = some ge' → (∀ (k r0 : Nat) (e0 : SE), bs[k]? = some (r0, e0) → r' ≠ r0) → ge.has b → ge'.has b → False := fun r r' ge ge' k h1 h2 h3 h4 h5 h6 => by
              have hlt := hst.lt b ⟨r', ge', h3, h6⟩
              rcases hown' b ⟨k, ge, h1, h5⟩ with ⟨k1, ge1, hk1, hb1⟩ | hge1
              · obtain ⟨r1, e1, hbk, hr1⟩ := hγc' k1 ge1 hk1
                exact h4 k1 r1 e1 hbk (hst.inj r' r1 ge' ge1 b h3 hr1 h6 hb1)
              · omega
            rcases hcal r ge hgr with ⟨k, h1, h2⟩ | ⟨h1, h2⟩
            · rcases hcal r' ge' hgr' with ⟨k', h1', h2'⟩ | ⟨h1', h2'⟩
              · rw [← h2, ← h2', hst'.inj k k' ge ge' b h1 h1' hb hb']
              · exact (hmix r r' ge ge' k h1 h2 h1' h2' hb hb').elim
            · rcases hcal r' ge' hgr' with ⟨k', h1', h2'⟩ | ⟨h1', h2'⟩
              · exact (hmix r' r ge' ge k' h1' h2' h1 h2 hb' hb).elim
              · exact hst.inj r r' ge ge' b h1 h1' hb hb'
          · rcases hown3 b hb with h | h
            · exact hst.asOff b h
            · exact ⟨fun ha => by have := hX b (.inl ha); omega, fun ha => by have := hX b (.inr ha); omega⟩
          · rcases hown'' b hb with h | h
            · exact Nat.lt_of_lt_of_le (hst.lt b h) hk.size
            · exact hst'.lt b h
        · obtain ⟨ge, hge⟩ := hst.get hr
          have hin := hnin r ge hge
          by_cases hb : ∃ (k r0 : Nat) (e0 : SE), bs[k]? = some (r0, e0) ∧ r = r0
          · obtain ⟨k, r0, e0, hbk, rfl⟩ := hb
            obtain ⟨e1, ge1, h1, h2, h3, h4, h5⟩ := hkind k r e0 hbk
            obtain ⟨_, e2, q1, _, q2⟩ := boxesOf_st hg hbs k r e0 hbk
            rw [hr] at q1; injection q1 with q1; subst q1
            have hs1 : st' r = some (e1.ren ρ) := by
              rw [hnw2 r (by rw [List.length_map]; omega)]
              refine wrS_at _ _ _ _ hwrd (List.mem_of_getElem? (i := k) ?_)
              rw [List.getElem?_zip_eq_some]
              exact ⟨by simp [hbk], by rw [List.getElem?_map, h1]; rfl⟩
            cases e1 with
            | box l1 => exact ⟨(hsel k r e0 hbk hin).trans h5, _, hs1⟩
            | row _ _ _ _ _ => cases h3
            | bld _ _ _ => rw [← q2] at h2; cases h2
          · refine ⟨hunsel r hin hb, l, ?_⟩
            rw [hnw2 r (by rw [List.length_map]; omega), wrS_other _ _ _ (fun x hx hxr => ?_)]
            · exact hr
            · obtain ⟨⟨r0, e0⟩, hm0, hr0⟩ := List.mem_map.1 (List.of_mem_zip hx).1
              obtain ⟨k, hk'⟩ := List.getElem?_of_mem hm0
              exact hb ⟨k, r0, e0, hk', by rw [← hxr]; exact hr0.symm⟩
        · obtain ⟨ge, hge⟩ := hst.get hr
          have hin := hnin r ge hge
          by_cases hb : ∃ (k r0 : Nat) (e0 : SE), bs[k]? = some (r0, e0) ∧ r = r0
          · obtain ⟨k, r0, e0, hbk, rfl⟩ := hb
            obtain ⟨e1, ge1, h1, h2, h3, h4, h5⟩ := hkind k r e0 hbk
            obtain ⟨_, e2, q1, _, q2⟩ := boxesOf_st hg hbs k r e0 hbk
            rw [hr] at q1; injection q1 with q1; subst q1
            have hs1 : st' r = some (e1.ren ρ) := by
              rw [hnw2 r (by rw [List.length_map]; omega)]
              refine wrS_at _ _ _ _ hwrd (List.mem_of_getElem? (i := k) ?_)
              rw [List.getElem?_zip_eq_some]
              exact ⟨by simp [hbk], by rw [List.getElem?_map, h1]; rfl⟩
            cases e1 with
            | bld T1 t1 s1 =>
              obtain ⟨g1, g0, k1, k2, k3, k4⟩ := h5
              exact ⟨g0, g1, k2, (hsel k r e0 hbk hin).trans k1, k3, k4, T1, t1, s1, hs1⟩
            | row _ _ _ _ _ => cases h3
            | box _ => rw [← q2] at h2; cases h2
          · refine ⟨ge, ge, hge, (hunsel r hin hb).trans hge, rfl, rfl, T, t, s, ?_⟩
            rw [hnw2 r (by rw [List.length_map]; omega), wrS_other _ _ _ (fun x hx hxr => ?_)]
            · exact hr
            · obtain ⟨⟨r0, e0⟩, hm0, hr0⟩ := List.mem_map.1 (List.of_mem_zip hx).1
              obtain ⟨k, hk'⟩ := List.getElem?_of_mem hm0
              exact hb ⟨k, r0, e0, hk', by rw [← hxr]; exact hr0.symm⟩
      · cases hE
    | _ => simp at hE
  | _ => simp at hE
end
end Pv
end Go.Proofs.YtafnkpmoolbjjaaDoor
/- ONE STEP: an instruction of a region, walked by its pure form. -/
set_option linter.unusedSimpArgs false
set_option linter.unusedVariables false
namespace Go.Proofs.YtafnkpmoolbjjaaDoor
namespace Pv
open Go.RowKit
theorem eraseDupsBy_nodup : ∀ (l acc : List Nat), acc.Nodup → (List.eraseDupsBy.loop (fun a b => a == b) l acc).Nodup
  | [], acc, h => by
    simp only [List.eraseDupsBy.loop]
    exact List.pairwise_reverse.2 (h.imp Ne.symm)
  | a :: l, acc, h => by
    unfold List.eraseDupsBy.loop
    split
    · exact eraseDupsBy_nodup l acc h
    · rename_i hn
      refine eraseDupsBy_nodup l (a :: acc) (List.nodup_cons.2 ⟨fun ha => ?_, h⟩)
      rw [List.any_eq_false] at hn
      exact hn a ha (by simp)
theorem eraseDups_nodup (l : List Nat) : l.eraseDups.Nodup := eraseDupsBy_nodup l [] List.nodup_nil
section
variable {P : Program} {X : Cx} {γ : Gh} {w w0 : World} {st st' : Nat → Option SE} {may : Nat → Prop} {a : Act} {s s' : PS}
theorem Rel.heapLe (h : Rel X w0 may a w s γ) : X.lo ≤ w.heap.size := by rw [h.lo]; exact h.keeps.size
theorem Rel.hX (h : Rel X w0 may a w s γ) : ∀ b, X.as b ∨ X.ls b → b < w.heap.size := fun b hb => Nat.lt_of_lt_of_le (h.asLt b hb).1 h.heapLe
theorem Rel.rowLo (h : Rel X w0 may a w s γ) : ∀ r ge b τ e z n f, γ r = some ge → s.st r = some (.row τ e z n f) → ge.blk = some b → X.my b := by
  intro r ge b τ e z n f hr hs hb
  rcases h.own r ge b hr (.inl hb) with h1 | ⟨h1, _⟩
  · exact h1
  · have := h.par r h1
    rw [hs] at this
    exact this.elim
theorem eval_opd (h : Rel X w0 may a w s γ) : Opd X γ w s.fr a.eval := by
  refine ⟨fun t p hp => ?_, fun v => rfl, fun f => rfl, fun g vs cs hg hc hfl => ?_⟩
  · obtain ⟨h1, h2⟩ := h.fr t p hp
    have : a.eval (.tmp t) = a.tmps.getD t undef := by
      simp [Act.eval, Array.getD_eq_getD_getElem?]
    rw [this]; exact h2
  · obtain ⟨p, hp, hpo⟩ := globV_ok hg
    obtain ⟨⟨o, ho, hpo'⟩, hown, has⟩ := h.st.glob g p hp
    obtain ⟨T, fz, rfl⟩ := hpo o hpo'
    have hcell : ∀ k c, cs[k]? = some c → ∃ u, vs[k]? = some u ∧ constPV u = some c ∧ w.cell? ((⟨g, 0, none⟩ : Addr).add k) = some u := fun k c hk => by
      have hlen := mapO_length hc
      have hkl : k < vs.length := by rw [← hlen]; exact (List.getElem?_eq_some_iff.1 hk).1
      obtain ⟨c', hc', hu⟩ := mapO_get hc k vs[k] (List.getElem?_eq_getElem hkl)
      rw [hk] at hc'; injection hc' with hc'; subst hc'
      have hadd : (⟨g, 0, none⟩ : Addr).add k = ⟨g, k, none⟩ := by unfold Addr.add; split <;> simp_all
      refine ⟨vs[k], List.getElem?_eq_getElem hkl, hu, ?_⟩
      rw [hadd, cell_of_row w g k _ _ _ ho]
      simp [hkl]
    refine .rp 1 cs ⟨g, 0, none⟩ (fun k => vs.getD k undef) (fun c hcm => List.all_eq_true.1 hfl c hcm) (fun _ => ⟨⟨hown, .inr (.inl ⟨Nat.le_refl _, has⟩)⟩, (Array.getElem?_eq_some_iff.1 ho).1⟩) (fun k hk => ?_) (fun k c hk => ?_)
    · obtain ⟨u, h1, _, h3⟩ := hcell k cs[k] (List.getElem?_eq_getElem hk)
      rw [h3]; simp [List.getD, h1]
    · obtain ⟨u, h1, h2, _⟩ := hcell k c hk
      have hfc := List.all_eq_true.1 hfl c (List.mem_of_getElem? hk)
      have e : vs.getD k undef = u := by simp [List.getD, h1]
      rw [e]
      have hr := constPV_rep (X := X) (γ := γ) (w := w) h2
      unfold constPV at h2
      split at h2 <;> first | (injection h2 with h2; subst h2) | cases h2
      all_goals first | exact hr | (simp [PV.flat] at hfc)
theorem Rel.after (h : Rel X w0 may a w s γ) {E : Eff} {v : Value} {w' : World} {γ' : Gh} (hE : EffOK X γ w s.st E v w' γ' s'.st) {dst : Option Tmp} (hn : s'.n = s.n)
    (hfr : ∀ t p, s'.fr t = some p → (dst = some t ∧ t < s.n ∧ Rep X γ' w' p v) ∨ (dst ≠ some t ∧ ∃ q, s.fr t = some q ∧ p = q.void E.kill)) : Rel X w0 may (a.put dst v) w' s' γ' := by
  have hsz : (a.put dst v).tmps.size = a.tmps.size := by cases dst <;> simp [Act.put]
  refine ⟨by rw [hsz, hn]; exact h.size, by cases dst <;> exact h.defers, fun t p hp => ?_, hE.sto, ?_, h.lo, fun r ge b hr hb => ?_, h.asLt, fun r hr => ?_, h.mayP⟩
  · rcases hfr t p hp with ⟨rfl, ht, hr⟩ | ⟨hne, q, hq, rfl⟩
    · refine ⟨by rw [hn]; exact ht, ?_⟩
      have : (a.put (some t) v).tmps.getD t undef = v := by
        have ht' : t < a.tmps.size := by rw [h.size]; exact ht
        simp [Act.put, Array.getD_eq_getD_getElem?, ht']
      rw [this]; exact hr
    · obtain ⟨h1, h2⟩ := h.fr t q hq
      refine ⟨by rw [hn]; exact h1, ?_⟩
      have : (a.put dst v).tmps.getD t undef = a.tmps.getD t undef := by
        cases dst with
        | none => rfl
        | some d =>
          have : d ≠ t := fun e => hne (by rw [e])
          simp [Act.put, Array.getD_eq_getD_getElem?, Array.getElem?_setIfInBounds_ne this]
      rw [this]; exact hE.old q _ h2
  · refine ⟨hE.keeps.os.trans h.keeps.os, hE.keeps.tape.trans h.keeps.tape, hE.keeps.output.trans h.keeps.output, Nat.le_trans h.keeps.size hE.keeps.size, fun b hb hm => ?_⟩
    rw [hE.keeps.block b (Nat.lt_of_lt_of_le hb h.keeps.size) (fun ho => ?_)]
    · exact h.keeps.block b hb hm
    · obtain ⟨r, ge, hr, hgb⟩ := ho
      rcases h.own r ge b hr hgb with h1 | ⟨h1, ge0, h2, h3⟩
      · rcases h1 with h1 | ⟨h1, r0, ge0, h2, h3⟩
        · have := h.lo; omega
        · exact hm (h.mayP r0 ge0 b (.inr h1) h2 h3)
      · exact hm (h.mayP r ge0 b (.inl h1) h2 h3)
  · rcases hE.ownE r ge b hr hb with h1 | ⟨ge0, h1, h2⟩
    · exact .inl (.inl (Nat.le_trans h.heapLe h1))
    · exact h.own r ge0 b h1 h2
  · have hp := h.par r hr
    cases hs : s.st r with
    | none => rw [hs] at hp; exact hp.elim
    | some e =>
      rw [hs] at hp
      cases e with
      | box l =>
        obtain ⟨h3, l', h4⟩ := hE.box r l hs
        rw [h4]
        exact h3.trans hp
      | row _ _ _ _ _ => exact hp.elim
      | bld T t x =>
        obtain ⟨ge1, ge2, k1, k2, k3, k4, T', t', x', k5⟩ := hE.bld r T t x hs
        obtain ⟨g1, g0, m1, m2, m3, m4⟩ := hp
        rw [k1] at m1; injection m1 with m1; subst m1
        rw [k5]
        exact ⟨ge2, g0, k2, m2, k3.trans m3, k4.trans m4⟩
theorem okO_iff : ∀ (l : List Prop) (ok ok' : Prop), okO ok l = some ok' → (ok' ↔ ok ∧ allP l)
  | [], ok, ok', h => by simp only [okO, Option.some.injEq] at h; subst h; simp [allP]
  | p :: ps, ok, ok', h => by
    simp only [okO] at h
    rw [okO_iff ps _ ok' h]; simp only [allP, and_assoc]
theorem okG_iff (G : Bool) : ∀ (l : List Prop) (ok ok' : Prop), okG G ok l = some ok' → (ok' ↔ ok ∧ (G = true → allP l))
  | [], ok, ok', h => by simp only [okG, Option.some.injEq] at h; subst h; simp [allP]
  | p :: ps, ok, ok', h => by
    simp only [okG] at h
    rw [okG_iff G ps _ ok' h]; simp only [allP]
    constructor
    · rintro ⟨⟨h1, h2⟩, h3⟩; exact ⟨h1, fun hg => ⟨h2 hg, h3 hg⟩⟩
    · rintro ⟨h1, h2⟩; exact ⟨⟨h1, fun hg => (h2 hg).1⟩, fun hg => (h2 hg).2⟩
theorem allP_append : ∀ (l l' : List Prop), allP (l ++ l') ↔ allP l ∧ allP l'
  | [], l' => by simp [allP]
  | p :: ps, l' => by simp only [List.cons_append, allP, allP_append ps l', and_assoc]
structure StepP (S : FuncId → List PV → List SE → CallRes → Prop) (lg : Bool) (c : CallRes) (i : Nat) (x : Ins) (s s' : PS) (G : Bool) (vs : List PV) (cs : List SE) (E : Eff) : Prop where
  guard : guardV s.fr x.g = some G
  vals : ∃ vs0, valL s.fr x.i.opr = some vs0 ∧ stripI x.i G vs0 = ((stripI x.i G vs0).1, vs) ∧ (s'.ok ↔ s.ok ∧ (x.g ≠ none → G = true → allP ((stripI x.i G vs0).1 ++ E.side)) ∧ (x.g = none → allP ((stripI x.i G vs0).1 ++ E.side)))
  ent : getL s.st (x.i.acc vs) = some cs
  eff : eff S c x.id x.i vs (x.i.acc vs) cs = some E
  log : logO lg s.log i (x.i.acc vs) vs (logCs x.i cs E.val) E.val E.wr E.nw E.kill E.rm = some s'.log
  n : s'.n = s.n
  st : newSt x.id E.kill E.rm E.wr E.nw s.st = some s'.st
  dlt : ∀ d, x.d = some d → d < s.n
  fr : s'.fr = match x.d with
    | none => voidF E.kill s.fr
    | some d => upd (voidF E.kill s.fr) d (if x.g = none then E.val else .cnd G E.val)
  gd : x.g ≠ none → E.wr = [] ∧ E.nw = [] ∧ E.kill = [] ∧ E.rm = [] ∧ x.d ≠ none
theorem stepI_parts {S : FuncId → List PV → List SE → CallRes → Prop} {lg : Bool} {c : CallRes} {i : Nat} {x : Ins} (h : stepI S lg c i x s = some s') :
    ∃ G vs cs E, StepP S lg c i x s s' G vs cs E := by
  obtain ⟨n, fr, st, ok, log⟩ := s
  obtain ⟨od, oid, og, oi⟩ := x
  unfold stepI at h
  simp only at h
  split at h
  · cases h
  · rename_i G hG
    split at h
    · cases h
    · rename_i vs0 hvs
      split at h
      · cases h
      · rename_i cs hcs
        split at h
        · cases h
        · rename_i val side wr nw kill rm hE
          split at h
          · cases h
          · rename_i log' hlog
            split at h
            · split at h
              · rename_i ok' st' fr' v hok hst hfr hv
                rw [newFr_eq] at hfr; injection hfr with hfr; subst hfr
                rw [norm_some] at hv; injection hv with hv; subst hv
                split at h
                · injection h with h; subst h
                  exact ⟨G, _, cs, _, hG, ⟨vs0, hvs, rfl, by simpa using okO_iff _ _ _ hok⟩, hcs, hE, hlog, rfl, hst, (fun d hd => by cases hd), rfl, fun hg => absurd rfl hg⟩
                · rename_i d
                  split at h
                  · rename_i hlt
                    injection h with h; subst h
                    exact ⟨G, _, cs, _, hG, ⟨vs0, hvs, rfl, by simpa using okO_iff _ _ _ hok⟩, hcs, hE, hlog, rfl, hst, (fun d' hd => by injection hd with hd; subst hd; simpa [Nat.blt_eq] using hlt), by simp, fun hg => absurd rfl hg⟩
                  · cases h
              · cases h
            · rename_i g
              split at h
              · rename_i d v ok' hv hok
                rw [norm_some] at hv; injection hv with hv; subst hv
                split at h
                · rename_i hlt
                  injection h with h; subst h
                  exact ⟨G, _, cs, _, hG, ⟨vs0, hvs, rfl, by simpa using okG_iff _ _ _ _ hok⟩, hcs, hE, hlog, rfl, by simp [newSt], (fun d' hd => by injection hd with hd; subst hd; simpa [Nat.blt_eq] using hlt), by simp [voidF_nil], fun _ => ⟨rfl, rfl, rfl, rfl, by simp⟩⟩
                · cases h
              · cases h
theorem idsL_acc {f : A} {xs : List A} {vs : List PV} : ((I.call f xs).acc vs).Nodup := eraseDups_nodup _
theorem pick_op {ρ : Operand → Value} {fr : Nat → Option PV} {wr : Bool} {o : Oper} {i : I} {vs0 : List PV} {cs : List SE} {E : Eff} {d : Nat} {S : FuncId → List PV → List SE → CallRes → Prop} {c : CallRes} (hc : compI P wr o = some i) (hpk : ∃ x y z, i = .pick x y z)
    (H : Opd X γ w fr ρ) (hst : RepSt X γ w st) (hv : valL fr i.opr = some vs0) (hsd : allP (stripI i true vs0).1) (hcs : getL st (i.acc (stripI i true vs0).2) = some cs)
    (hE : eff S c d i (stripI i true vs0).2 (i.acc (stripI i true vs0).2) cs = some E) (hs : allP E.side) (hnew : newSt d E.kill E.rm E.wr E.nw st = some st') : Snd P X γ w st E st' (execOp ρ o) := by
  obtain ⟨x, y, z, rfl⟩ := hpk
  have hop : ∃ c0 a0 b0, o.op = .pick c0 a0 b0 ∧ arg c0 = some x ∧ arg a0 = some y ∧ arg b0 = some z := by
    revert hc
    unfold compI
    intro hc
    repeat' (split at hc)
    all_goals first
      | (cases hc; done)
      | (obtain ⟨y, hy, hc⟩ := Option.map_eq_some_iff.1 hc; cases hc; done)
      | (injection hc with hc; injection hc with e1 e2 e3; subst e1; subst e2; subst e3
         rename_i _ c0 a0 b0 hop _ _ _ _ _ _ h1 h2 h3
         exact ⟨c0, a0, b0, hop, h1, h2, h3⟩)
      | skip
  obtain ⟨c0, a0, b0, hop, h1, h2, h3⟩ := hop
  have hR0 := op3 H h1 h2 h3 hv
  have hR : RepL X γ w (stripI (.pick x y z) true vs0).2 [ρ c0, ρ a0, ρ b0] := by
    unfold stripI at hsd ⊢
    simp only at hsd ⊢
    split at hsd
    · obtain ⟨u, us, hu, hr1, hr2⟩ := hR0.cons_inv
      rw [hu]
      exact RepL.cons_ (hr1.cnd_inv (by simpa [allP] using hsd)) hr2
    · exact hR0
  generalize (stripI (.pick x y z) true vs0).2 = vs at *
  simp only [eff] at hE
  unfold execOp; rw [hop]
  unfold ePick at hE
  split at hE
  · rename_i b p q
    have hb := hR.2 0 _ _ rfl rfl
    have hp := hR.2 1 _ _ rfl rfl
    have hq := hR.2 2 _ _ rfl rfl
    have hbv := hb.bool_inv
    obtain ⟨h4, h5⟩ := pick_sound hp hq hE hs
    have hm : ((do pure (Next.value (if ← asBool (ρ c0) then ρ a0 else ρ b0))) : Sem Next) = pure (.value (if b then ρ a0 else ρ b0)) := by
      rw [hbv]; cases b <;> rfl
    show Snd P X γ w st E st' ((do pure (Next.value (if ← asBool (ρ c0) then ρ a0 else ρ b0))) : Sem Next)
    rw [hm]
    exact Snd.val hst h4 h5 hnew
  · cases hE
theorem op_wp {wr : Bool} {o : Oper} {i : I} {vs0 : List PV} {cs : List SE} {E : Eff} {d : Nat} {c : CallRes} {st' : Nat → Option SE} {Q : Exit → Act → World → Prop}
    (hR : Rel X w0 may a w s γ) (hc : compI P wr o = some i) (hv : valL s.fr i.opr = some vs0) (hsd : allP (stripI i true vs0).1) (hcs : getL s.st (i.acc (stripI i true vs0).2) = some cs)
    (hE : eff (PureCall P) c d i (stripI i true vs0).2 (i.acc (stripI i true vs0).2) cs = some E) (hs : allP E.side) (hnew : newSt d E.kill E.rm E.wr E.nw s.st = some st') :
    o.wp P a w (fun a' w' => ∃ v γ', a' = a.put o.dst v ∧ EffOK X γ w s.st E v w' γ' st') Q := by
  have H := eval_opd hR
  by_cases hpk : ∃ x y z, i = .pick x y z
  · obtain ⟨nx, v, w', γ', hrun, hnx, hok⟩ := pick_op hc hpk H hR.st hv hsd hcs hE hs hnew
    unfold Oper.wp
    rw [hrun]
    rcases hnx with rfl | ⟨rfl, rfl⟩
    · exact ⟨v, γ', rfl, hok⟩
    · exact ⟨_, γ', rfl, hok⟩
  have hsi : stripI i true vs0 = stripS true vs0 := by
    unfold stripI
    split
    · exact absurd ⟨_, _, _, rfl⟩ hpk
    · rfl
  rw [hsi] at hsd hcs hE
  cases hnc : i.isCall with
  | false =>
    obtain ⟨nx, v, w', γ', hrun, hnx, hok⟩ := op_sound hc hnc H hR.st hR.hX hR.rowLo hv hsd hcs hE hs hnew
    unfold Oper.wp
    rw [hrun]
    rcases hnx with rfl | ⟨rfl, rfl⟩
    · exact ⟨v, γ', rfl, hok⟩
    · exact ⟨_, γ', rfl, hok⟩
  | true =>
    have hcall : ∃ cl f y ys, o.op = .call cl ∧ cl.callee = .value f ∧ arg f = some y ∧ mapO (fun (q : Operand × TypeId) => argT P q.2 q.1) (cl.args.toList.zip cl.argTypes.toList) = some ys ∧ cl.args.size = cl.argTypes.size ∧ i = .call y ys := by
      revert hc
      unfold compI
      intro hc
      repeat' (split at hc)
      all_goals first
        | (cases hc; done)
        | (injection hc with hc; subst hc; simp [I.isCall] at hnc; done)
        | (obtain ⟨y, hy, rfl⟩ := Option.map_eq_some_iff.1 hc; simp [I.isCall] at hnc; done)
        | (injection hc with hc; subst hc
           rename_i _ cl hop _ f hcal _ _ y ys hy hys hsz
           exact ⟨_, _, _, _, hop, hcal, hy, hys, by simpa using hsz, rfl⟩)
    obtain ⟨cl, f, y, ys, hop, hcal, hy, hys, hsz, rfl⟩ := hcall
    have hz : (cl.args.toList.zip cl.argTypes.toList).map (fun q => a.eval q.1) = (cl.args.map a.eval).toList := by
      have hl : cl.args.toList.length = cl.argTypes.toList.length := by simpa using hsz
      have h1 : (cl.args.toList.zip cl.argTypes.toList).map (fun q => q.1) = cl.args.toList := List.map_fst_zip (by omega)
      rw [show (fun q : Operand × TypeId => a.eval q.1) = a.eval ∘ (fun q => q.1) from rfl, ← List.map_map, h1]
      simp
    have hR0 : RepL X γ w vs0 (a.eval f :: (cl.args.map a.eval).toList) := by
      simp only [I.opr, valL] at hv
      split at hv
      · rename_i p ps hp hps
        injection hv with hv; subst hv
        refine RepL.cons_ (arg_rep H hy hp) ?_
        have := argsT_rep (P := P) (α := Operand × TypeId) H (fun q => q.2) (fun q => q.1) (xs := cl.args.toList.zip cl.argTypes.toList) (ys := ys) (ps := ps) hys hps
        rwa [hz] at this
      · cases hv
    have hRs := stripS_sound hR0 hsd
    generalize (stripS true vs0).2 = vs at *
    cases vs with
    | nil => simp [eff, eCall] at hE
    | cons f0 args0 =>
      obtain ⟨fv, avs, hfv, hr1, hr2⟩ := hRs.cons_inv
      injection hfv with hfv1 hfv2
      simp only [eff, eCall] at hE
      obtain ⟨id, first, caps, hfe, ⟨fn, hfn, hbody, hname⟩, hC⟩ := call_sound hR.st hR.hX hR.heapLe hR.rowLo hr1 hr2 idsL_acc hcs hE hs hnew
      have hrun : (execOp a.eval o).run P w = .ok (.enter id ((first ++ avs.toArray) ++ caps)) w := by
        unfold execOp
        rw [hop]
        have hb : fn.body ≠ none := by intro h; rw [h] at hbody; cases hbody
        have hnm : fn.name ≠ "runtime.NumGoroutine" := by simpa using hname
        have hav : cl.args.map a.eval = avs.toArray := by rw [← hfv2]
        simp [resolve, hcal, hfv1, hfe, Deferred.ofValue, invoke, callFunc, hfn, hb, hnm, hav]
      unfold Oper.wp
      rw [hrun]
      simp only [Oper.upon]
      refine hC.mono ?_
      rintro e w' ⟨v, γ', rfl, hok⟩
      exact ⟨v, γ', rfl, hok⟩
end
end Pv
end Go.Proofs.YtafnkpmoolbjjaaDoor
/- REGIONS: in the order of the text, and in whatever order. -/
set_option linter.unusedSimpArgs false
set_option linter.unusedVariables false
namespace Go.Proofs.YtafnkpmoolbjjaaDoor
namespace Pv
open Go.RowKit
section
variable {P : Program} {X : Cx} {γ : Gh} {w w0 : World} {st st' : Nat → Option SE} {may : Nat → Prop} {a : Act} {s s' : PS} {ops : Array Oper} {Q : Exit → Act → World → Prop} {K : Act → World → Prop}
theorem compO_parts {wr : Bool} {o : Oper} {x : Ins} (h : compO P wr ops o = some x) : guardS ops o.guard = some x.g ∧ compI P wr o = some x.i ∧ x.d = o.dst := by
  unfold compO at h
  split at h
  · rename_i g i hg hi
    injection h with h; subst h
    exact ⟨hg, hi, rfl⟩
  · cases h
theorem guard_none {o : Oper} {x : Ins} (hg : guardS ops o.guard = some x.g) (hx : x.g = none) (f : Nat → Option Bool) : Region.wanted o f = true := by
  unfold Region.wanted
  cases h : o.guard with
  | none => rfl
  | some jw =>
    obtain ⟨j, want⟩ := jw
    rw [h] at hg
    simp only [guardS] at hg
    split at hg
    · rw [hx] at hg; cases hg
    · cases hg
theorem guard_some {o : Oper} {x : Ins} {g : Nat × Bool} {G : Bool} (hR : Rel X w0 may a w s γ) (hg : guardS ops o.guard = some x.g) (hx : x.g = some g) (hG : guardV s.fr x.g = some G) :
    Region.wanted o (yielded ops a.tmps) = G := by
  unfold Region.wanted
  cases h : o.guard with
  | none => rw [h, hx] at hg; cases hg
  | some jw =>
    obtain ⟨j, want⟩ := jw
    rw [h] at hg
    simp only [guardS] at hg
    split at hg
    · rename_i d hd
      rw [hx] at hg; injection hg with hg; injection hg with hg; subst hg
      rw [hx] at hG
      simp only [guardV] at hG
      have hy : ∀ p, s.fr d = some p → ∃ v, a.tmps[d]? = some v ∧ Rep X γ w p v := fun p hp => by
        obtain ⟨h1, h2⟩ := hR.fr d p hp
        have hlt : d < a.tmps.size := by rw [hR.size]; exact h1
        refine ⟨a.tmps[d], by simp [hlt], ?_⟩
        simpa [Array.getD_eq_getD_getElem?, hlt] using h2
      simp only
      unfold yielded
      rw [hd]
      simp only [Option.bind_some]
      split at hG
      · rename_i b hb
        injection hG with hG; subst hG
        obtain ⟨v, hv, hr⟩ := hy _ hb
        cases hr.bool_inv
        rw [hv]; cases b <;> cases want <;> rfl
      · rename_i gg b hb
        injection hG with hG; subst hG
        obtain ⟨v, hv, hr⟩ := hy _ hb
        rw [hv]
        cases gg with
        | true => cases (hr.cnd_inv rfl).bool_inv; cases b <;> cases want <;> rfl
        | false =>
          cases hr with
          | cnd _ _ _ _ hu => rw [hu rfl]; cases want <;> cases b <;> rfl
      · cases hG
    · cases hg
theorem step_main {wr lg : Bool} {o : Oper} {x : Ins} {c : CallRes} {i : Nat} {G : Bool} {vs vs0 : List PV} {cs : List SE} {E : Eff} (hR : Rel X w0 may a w s γ) (hi : compI P wr o = some x.i) (hd : x.d = o.dst) (H : StepP (PureCall P) lg c i x s s' G vs cs E)
    (hv0 : valL s.fr x.i.opr = some vs0) (hvs : stripI x.i G vs0 = ((stripI x.i G vs0).1, vs)) (hK : ∀ a' w' γ', Rel X w0 may a' w' s' γ' → K a' w') (hG : G = true) (ha : allP ((stripI x.i G vs0).1 ++ E.side)) : o.wp P a w K Q := by
  subst hG
  obtain ⟨ha1, ha2⟩ := (allP_append _ _).1 ha
  have e1 : (stripI x.i true vs0).2 = vs := by rw [hvs]
  have := op_wp (Q := Q) hR hi hv0 ha1 (by rw [e1]; exact H.ent) (by rw [e1]; exact H.eff) ha2 H.st
  refine Oper.wp_mono ?_ this
  rintro a' w' ⟨v, γ', rfl, hE⟩
  refine hK _ _ γ' (hR.after hE H.n fun t p hp => ?_)
  rw [H.fr] at hp
  cases hxd : x.d with
  | none =>
    rw [hxd] at hp
    right
    refine ⟨by rw [← hd, hxd]; simp, ?_⟩
    simp only [voidF] at hp
    obtain ⟨q, hq, rfl⟩ := Option.map_eq_some_iff.1 hp
    exact ⟨q, hq, rfl⟩
  | some d =>
    rw [hxd] at hp
    simp only at hp
    by_cases htd : t = d
    · subst htd
      rw [upd_same] at hp; injection hp with hp; subst hp
      left
      refine ⟨by rw [← hd, hxd], H.dlt _ hxd, ?_⟩
      split
      · exact hE.val
      · exact .cnd _ _ _ (fun _ => hE.val) (fun h => by cases h)
    · rw [upd_ne _ _ htd] at hp
      right
      refine ⟨by rw [← hd, hxd]; simpa using fun h => htd h.symm, ?_⟩
      simp only [voidF] at hp
      obtain ⟨q, hq, rfl⟩ := Option.map_eq_some_iff.1 hp
      exact ⟨q, hq, rfl⟩
theorem step_sound {wr lg : Bool} {o : Oper} {x : Ins} {c : CallRes} {i k : Nat} (hk : ops[k]? = some o) (hR : Rel X w0 may a w s γ) (ho : compO P wr ops o = some x) (hs : stepI (PureCall P) lg c i x s = some s') (hok : s'.ok)
    (hK : ∀ a' w' γ', Rel X w0 may a' w' s' γ' → K a' w') : wpOp P ops Q k K a w := by
  obtain ⟨hg, hi, hd⟩ := compO_parts ho
  obtain ⟨G, vs, cs, E, H⟩ := stepI_parts hs
  obtain ⟨vs0, hv0, hvs, hokk⟩ := H.vals
  have main : G = true → allP ((stripI x.i G vs0).1 ++ E.side) → o.wp P a w K Q := step_main hR hi hd H hv0 hvs hK
  unfold wpOp
  rw [hk]
  simp only
  cases hxg : x.g with
  | none =>
    have hG : G = true := by have := H.guard; rw [hxg] at this; simpa [guardV] using this.symm
    rw [guard_none hg hxg, if_pos rfl]
    exact .inl (main hG ((hokk.1 hok).2.2 hxg))
  | some g =>
    rw [guard_some hR hg hxg H.guard]
    cases G with
    | true =>
      rw [if_pos rfl]
      exact .inl (main rfl ((hokk.1 hok).2.1 (by rw [hxg]; simp) rfl))
    | false =>
      rw [if_neg (by simp)]
      obtain ⟨h1, h2, h3, h4, h5⟩ := H.gd (by rw [hxg]; simp)
      have hst : s'.st = s.st := by
        have := H.st
        rw [h1, h2, h3, h4] at this
        simpa [newSt] using this.symm
      have hE : EffOK X γ w s.st (Eff.pure .junk) undef w γ s'.st := by
        rw [hst]; exact EffOK.still (Eff.still_pure _) hR.st (.junk _)
      refine hK _ _ γ (hR.after hE H.n fun t p hp => ?_)
      rw [H.fr, h3, voidF_nil] at hp
      cases hxd : x.d with
      | none => exact absurd hxd h5
      | some d =>
        rw [hxd] at hp
        simp only at hp
        by_cases htd : t = d
        · subst htd
          rw [upd_same] at hp; injection hp with hp; subst hp
          left
          refine ⟨by rw [← hd, hxd], H.dlt _ hxd, ?_⟩
          rw [if_neg (by rw [hxg]; simp)]
          exact .cnd _ _ _ (fun h => by cases h) (fun _ => rfl)
        · rw [upd_ne _ _ htd] at hp
          right
          exact ⟨by rw [← hd, hxd]; simpa using fun h => htd h.symm, p, hp, (void_nil p).symm⟩
theorem stepX_sound {wr lg : Bool} {o : Oper} {x : Ins} {c : CallRes} {i k : Nat} (hk : ops[k]? = some o) (hR : Rel X w0 may a w s γ) (ho : compO P wr ops o = some x) (hs : stepX (PureCall P) lg c i x s = some s') (hok : s'.ok)
    (hK : ∀ a' w' γ', Rel X w0 may a' w' s' γ' → K a' w') : wpOp P ops Q k K a w := by
  cases lg with
  | true => exact step_sound (lg := true) hk hR ho (by simpa only [stepX] using hs) hok hK
  | false =>
    obtain ⟨hg, hi, hd⟩ := compO_parts ho
    obtain ⟨od, oid, og, oi⟩ := x
    obtain ⟨n, fr, st, ok, log⟩ := s
    simp only [stepX, stepG] at hs
    split at hs
    · rename_i g _ _ hh
      split at hs
      · rename_i hgv
        obtain ⟨G, vs, cs, E, H⟩ := stepI_parts hs
        obtain ⟨vs0, hv0, hvs, hokk⟩ := H.vals
        have hG : G = true := by have := H.guard; simpa [guardV] using this.symm
        have main := step_main (Q := Q) (x := ⟨od, oid, none, oi⟩) hR hi hd H hv0 hvs hK hG ((hokk.1 hok).2.2 rfl)
        unfold wpOp
        rw [hk]
        simp only
        rw [guard_some hR hg rfl hgv, if_pos rfl]
        exact .inl main
      · rename_i hgv
        unfold wpOp
        rw [hk]
        simp only
        rw [guard_some hR hg rfl hgv, if_neg (by simp)]
        have hE : EffOK X γ w st (Eff.pure .junk) undef w γ st := EffOK.still (Eff.still_pure _) hR.st (.junk _)
        cases hod : od with
        | none =>
          rw [hod] at hs
          simp only [Option.some.injEq] at hs
          subst hs
          rw [← hd]
          simp only [hod]
          exact hK _ _ γ (hR.after hE rfl fun t p hp => .inr ⟨by simp, p, hp, (void_nil p).symm⟩)
        | some d =>
          rw [hod] at hs
          simp only at hs
          split at hs
          · rename_i hlt
            injection hs with hs; subst hs
            rw [← hd]
            simp only [hod]
            refine hK _ _ γ (hR.after hE rfl fun t p hp => ?_)
            simp only at hp
            by_cases htd : t = d
            · subst htd
              rw [upd_same] at hp; injection hp with hp; subst hp
              exact .inl ⟨rfl, by simpa [Nat.blt_eq] using hlt, .cnd _ _ _ (fun h => by cases h) (fun _ => rfl)⟩
            · rw [upd_ne _ _ htd] at hp
              exact .inr ⟨by simpa using fun h => htd h.symm, p, hp, (void_nil p).symm⟩
          · cases hs
      · cases hs
    · rename_i g _ _ hh
      split at hs
      · exact step_sound hk hR ho hs hok hK
      split at hs
      · rename_i hgv
        unfold wpOp
        rw [hk]
        simp only
        rw [guard_some hR hg rfl hgv, if_neg (by simp)]
        have hE : EffOK X γ w st (Eff.pure .junk) undef w γ st := EffOK.still (Eff.still_pure _) hR.st (.junk _)
        cases hod : od with
        | none =>
          rw [hod] at hs
          simp only [Option.some.injEq] at hs
          subst hs
          rw [← hd]
          simp only [hod]
          exact hK _ _ γ (hR.after hE rfl fun t p hp => .inr ⟨by simp, p, hp, (void_nil p).symm⟩)
        | some d =>
          rw [hod] at hs
          simp only at hs
          split at hs
          · rename_i hlt
            injection hs with hs; subst hs
            rw [← hd]
            simp only [hod]
            refine hK _ _ γ (hR.after hE rfl fun t p hp => ?_)
            simp only at hp
            by_cases htd : t = d
            · subst htd
              rw [upd_same] at hp; injection hp with hp; subst hp
              exact .inl ⟨rfl, by simpa [Nat.blt_eq] using hlt, .cnd _ _ _ (fun h => by cases h) (fun _ => rfl)⟩
            · rw [upd_ne _ _ htd] at hp
              exact .inr ⟨by simpa using fun h => htd h.symm, p, hp, (void_nil p).symm⟩
          · cases hs
      · cases hs
    · rename_i g _ _ hh
      split at hs
      · rename_i s'' hs''
        injection hs with hs; subst hs
        exact step_sound hk hR ho hs'' hok hK
      · split at hs
        · rename_i hgv
          obtain ⟨G, vs, cs, E, H⟩ := stepI_parts hs
          obtain ⟨vs0, hv0, hvs, hokk⟩ := H.vals
          have hG : G = true := by have := H.guard; simpa [guardV] using this.symm
          have main := step_main (Q := Q) (x := ⟨od, oid, none, oi⟩) hR hi hd H hv0 hvs hK hG ((hokk.1 hok).2.2 rfl)
          unfold wpOp
          rw [hk]
          simp only
          rw [guard_some hR hg rfl hgv, if_pos rfl]
          exact .inl main
        · rename_i hgv
          unfold wpOp
          rw [hk]
          simp only
          rw [guard_some hR hg rfl hgv, if_neg (by simp)]
          have hE : EffOK X γ w st (Eff.pure .junk) undef w γ st := EffOK.still (Eff.still_pure _) hR.st (.junk _)
          cases hod : od with
          | none =>
            rw [hod] at hs
            simp only [Option.some.injEq] at hs
            subst hs
            rw [← hd]
            simp only [hod]
            exact hK _ _ γ (hR.after hE rfl fun t p hp => .inr ⟨by simp, p, hp, (void_nil p).symm⟩)
          | some d =>
            rw [hod] at hs
            simp only at hs
            split at hs
            · rename_i hlt
              injection hs with hs; subst hs
              rw [← hd]
              simp only [hod]
              refine hK _ _ γ (hR.after hE rfl fun t p hp => ?_)
              simp only at hp
              by_cases htd : t = d
              · subst htd
                rw [upd_same] at hp; injection hp with hp; subst hp
                exact .inl ⟨rfl, by simpa [Nat.blt_eq] using hlt, .cnd _ _ _ (fun h => by cases h) (fun _ => rfl)⟩
              · rw [upd_ne _ _ htd] at hp
                exact .inr ⟨by simpa using fun h => htd h.symm, p, hp, (void_nil p).symm⟩
            · cases hs
        · cases hs
    · exact step_sound hk hR ho hs hok hK
def evL (S : FuncId → List PV → List SE → CallRes → Prop) (lg : Bool) (cr : Nat → CallRes) : List (Nat × Ins) → PS → Option PS
  | [], s => some s
  | (i, x) :: r, s => match stepX S lg (cr i) i x s with
    | some s' => evL S lg cr r s'
    | none => none
theorem stepI_ok {S : FuncId → List PV → List SE → CallRes → Prop} {lg : Bool} {c : CallRes} {i : Nat} {x : Ins} (h : stepI S lg c i x s = some s') (hok : s'.ok) : s.ok := by
  obtain ⟨G, vs, cs, E, H⟩ := stepI_parts h
  obtain ⟨vs0, hv0, hvs, hokk⟩ := H.vals
  exact (hokk.1 hok).1
theorem stepX_ok {S : FuncId → List PV → List SE → CallRes → Prop} {lg : Bool} {c : CallRes} {i : Nat} {x : Ins} (h : stepX S lg c i x s = some s') (hok : s'.ok) : s.ok := by
  cases lg with
  | true => exact stepI_ok (lg := true) (by simpa only [stepX] using h) hok
  | false =>
    obtain ⟨od, oid, og, oi⟩ := x
    obtain ⟨n, fr, st, ok, log⟩ := s
    simp only [stepX, stepG] at h
    split at h
    · split at h
      · exact stepI_ok h hok
      · split at h
        · injection h with h; subst h; exact hok
        · split at h
          · injection h with h; subst h; exact hok
          · cases h
      · cases h
    · split at h
      · exact stepI_ok h hok
      split at h
      · split at h
        · injection h with h; subst h; exact hok
        · split at h
          · injection h with h; subst h; exact hok
          · cases h
      · cases h
    · split at h
      · rename_i s'' hs''
        injection h with h; subst h
        exact stepI_ok hs'' hok
      · split at h
        · exact stepI_ok h hok
        · split at h
          · injection h with h; subst h; exact hok
          · split at h
            · injection h with h; subst h; exact hok
            · cases h
        · cases h
    · exact stepI_ok h hok
theorem evL_ok {S : FuncId → List PV → List SE → CallRes → Prop} {lg : Bool} {cr : Nat → CallRes} : ∀ {l : List (Nat × Ins)} {s s' : PS}, evL S lg cr l s = some s' → s'.ok → s.ok
  | [], s, s', h, hok => by simp only [evL, Option.some.injEq] at h; subst h; exact hok
  | (i, x) :: r, s, s', h, hok => by
    simp only [evL] at h
    split at h
    · rename_i s1 h1; exact stepX_ok h1 (evL_ok h hok)
    · cases h
theorem reg_sound {wr lg : Bool} {cr : Nat → CallRes} : ∀ {l : List (Nat × Ins)} {a : Act} {w : World} {s s' : PS} {γ : Gh}, (∀ p ∈ l, ∃ o, ops[p.1]? = some o ∧ compO P wr ops o = some p.2) →
    Rel X w0 may a w s γ → evL (PureCall P) lg cr l s = some s' → s'.ok → (∀ a' w' γ', Rel X w0 may a' w' s' γ' → Q .normal a' w') → wpOps P ops Q (l.map (·.1)) a w
  | [], a, w, s, s', γ, hl, hR, h, hok, hK => by
    simp only [evL, Option.some.injEq] at h; subst h
    simpa [wpOps] using hK _ _ _ hR
  | (i, x) :: r, a, w, s, s', γ, hl, hR, h, hok, hK => by
    simp only [evL] at h
    split at h
    · rename_i s1 h1
      obtain ⟨o, ho, hx⟩ := hl (i, x) (by simp)
      rw [List.map_cons, wpOps_cons]
      exact stepX_sound ho hR hx h1 (evL_ok h hok) fun a' w' γ' hR' => reg_sound (fun p hp => hl p (by simp [hp])) hR' h hok hK
    · cases h
end
end Pv
end Go.Proofs.YtafnkpmoolbjjaaDoor
/- TWO STEPS THAT DO NOT DISTURB ONE ANOTHER: their order does not matter. -/
set_option linter.unusedSimpArgs false
set_option linter.unusedVariables false
namespace Go.Proofs.YtafnkpmoolbjjaaDoor
namespace Pv
open Go.RowKit
theorem boxesOf_sub : ∀ {ids : List Nat} {cs : List SE} {bs : List (Nat × SE)}, boxesOf ids cs = some bs → ∀ p ∈ bs, p.1 ∈ ids
  | [], cs, bs, h, p, hp => by simp only [boxesOf, Option.some.injEq] at h; subst h; simp at hp
  | i :: is, [], bs, h, p, hp => by simp only [boxesOf, Option.some.injEq] at h; subst h; simp at hp
  | i :: is, .box l :: cs, bs, h, p, hp => by
    simp only [boxesOf] at h
    split at h
    · rename_i l' rest hl hrest
      injection h with h; subst h
      rcases List.mem_cons.1 hp with rfl | hp
      · simp
      · exact List.mem_cons_of_mem _ (boxesOf_sub hrest p hp)
    · cases h
  | i :: is, .row .. :: cs, bs, h, p, hp => by
    simp only [boxesOf] at h
    exact List.mem_cons_of_mem _ (boxesOf_sub h p hp)
  | i :: is, .bld .. :: cs, bs, h, p, hp => by
    simp only [boxesOf] at h
    split at h
    · rename_i rest hrest
      injection h with h; subst h
      rcases List.mem_cons.1 hp with rfl | hp
      · simp
      · exact List.mem_cons_of_mem _ (boxesOf_sub hrest p hp)
    · cases h
def Eff.tame (E : Eff) (ids : List Nat) : Prop := (∀ p ∈ E.wr, p.1 ∈ ids) ∧ E.nw.length ≤ 16
theorem tame_pure (p : PV) (ids : List Nat) : (Eff.pure p).tame ids := ⟨by simp [Eff.pure], by simp [Eff.pure]⟩
theorem tame_side (p : PV) (q : Prop) (ids : List Nat) : (Eff.side' p q).tame ids := ⟨by simp [Eff.side'], by simp [Eff.side']⟩
theorem biI_tame {w : Bool} {op : BinOp} {k : IntKind} {a b : Int} {E : Eff} {ids : List Nat} (h : biI w op k a b = some E) : E.tame ids := by
  unfold biI at h
  simp only at h
  repeat' (split at h)
  all_goals first
    | (injection h with h; subst h; first | exact tame_pure _ _ | exact tame_side _ _ _)
    | cases h
theorem shfI_tame {w : Bool} {op : BinOp} {k : IntKind} {a b : Int} {E : Eff} {ids : List Nat} (h : shfI w op k a b = some E) : E.tame ids := by
  unfold shfI at h
  repeat' (split at h)
  all_goals first
    | (injection h with h; subst h; first | exact tame_pure _ _ | exact tame_side _ _ _)
    | cases h
theorem eSt_tame {n : Nat} {vs : List PV} {cs : List SE} {E : Eff} {ids : List Nat} (h : eSt n vs cs = some E) (hi : ids = (vs.take 1).flatMap PV.top) : E.tame ids := by
  unfold eSt at h
  split at h
  · split at h
    · injection h with h; subst h; subst hi; exact ⟨by simp [PV.top], by simp⟩
    · cases h
  · split at h
    · injection h with h; subst h; subst hi; exact ⟨by simp [PV.top], by simp⟩
    · cases h
  · cases h
theorem eCall_tame {S : FuncId → List PV → List SE → CallRes → Prop} {c : CallRes} {d : Nat} {vs : List PV} {ids : List Nat} {cs : List SE} {E : Eff} (h : eCall S c d vs ids cs = some E) : E.tame ids := by
  unfold eCall at h
  split at h
  · unfold callV at h
    split at h
    · rename_i hca
      unfold callA at hca
      split at hca
      · rename_i id first caps
        cases hgv : natIn id givers with
        | true =>
          rw [hgv] at hca
          simp only at hca
          unfold givA at hca
          split at hca
          · split at hca
            · injection hca with hca
              simp only [Prod.mk.injEq] at hca
              obtain ⟨rfl, _, rfl⟩ := hca
              simp only [hgv] at h
              unfold givV at h
              split at h
              · split at h
                · injection h with h; subst h
                  exact ⟨by simp, by simp⟩
                · cases h
              · cases h
            · cases hca
          · cases hca
        | false =>
          rw [hgv] at hca
          simp only at hca
          split at hca
          · rename_i bs hb
            injection hca with hca
            simp only [Prod.mk.injEq] at hca
            obtain ⟨rfl, _, rfl⟩ := hca
            simp only [hgv] at h
            split at h
            · rename_i hcond
              injection h with h; subst h
              refine ⟨fun p hp => ?_, by simpa using hcond.1⟩
              have := (List.of_mem_zip (a := p.1) (b := p.2) hp).1
              obtain ⟨q, hq, hqe⟩ := List.mem_map.1 this
              rw [← hqe]
              exact boxesOf_sub hb q hq
            · cases h
          · cases hca
      · cases hca
    · cases h
  · cases h
theorem eff_tame {S : FuncId → List PV → List SE → CallRes → Prop} {c : CallRes} {d : Nat} {i : I} {vs : List PV} {cs : List SE} {E : Eff} (h : eff S c d i vs (i.acc vs) cs = some E) : E.tame (i.acc vs) := by
  cases i with
  | st n x v => exact eSt_tame h rfl
  | call f xs => exact eCall_tame h
  | bi w op x y =>
    simp only [eff, eBi, biV] at h
    repeat' (split at h)
    all_goals first
      | exact biI_tame h
      | exact shfI_tame h
      | (injection h with h; subst h; first | exact tame_pure _ _ | exact tame_side _ _ _)
      | cases h
  | un w op x =>
    simp only [eff] at h
    unfold eUn at h
    split at h
    · exact biI_tame h
    · injection h with h; subst h; exact tame_pure _ _
    · cases h
  | pick x y z =>
    simp only [eff] at h
    unfold ePick pickV at h
    repeat' (split at h)
    all_goals first
      | (injection h with h; subst h; first | exact tame_pure _ _ | exact tame_side _ _ _)
      | cases h
  | app e z bytes x y =>
    simp only [eff] at h
    unfold eApp at h
    repeat' (split at h)
    all_goals first
      | (injection h with h; subst h; exact ⟨by simp [I.acc, PV.top], by simp⟩)
      | cases h
  | slc z x lo hi =>
    cases lo <;> cases hi
    all_goals
      simp only [eff, Option.isSome, eSlc, eSlc00, eSlc10, eSlc01, eSlc11] at h
      repeat' (split at h)
    all_goals first
      | (injection h with h; subst h; first | exact tame_pure _ _ | exact tame_side _ _ _ | exact ⟨by simp [I.acc, PV.top], by simp⟩)
      | cases h
  | mv x =>
    simp only [eff] at h
    unfold eMv at h
    repeat' (split at h)
    all_goals first
      | (injection h with h; subst h; first | exact tame_pure _ _ | exact ⟨by simp [I.acc, PV.topV], by simp⟩)
      | cases h
  | slcs x lo hi =>
    cases lo <;> cases hi
    all_goals
      simp only [eff, Option.isSome, eSlcs, eSlcs00, eSlcs10, eSlcs01, eSlcs11] at h
      repeat' (split at h)
    all_goals first
      | (injection h with h; subst h; first | exact tame_pure _ _ | exact tame_side _ _ _)
      | cases h
  | _ =>
    simp only [eff, eMv, eBx, eBd, eBs, eLd, eNc, eBib, eEqa, eCv, eFa, eFd, eIa, eIaa, eIxa, eIxs, eIsn, eLen, eLens, eMx, eMn, eMks, eEx, eCvb, eCvs, eMkm, eMpg, eMpu, eBsx] at h
    repeat' (split at h)
    all_goals first
      | (injection h with h; subst h; first | exact tame_pure _ _ | exact tame_side _ _ _ | exact ⟨by simp [I.acc, PV.top], by simp⟩)
      | cases h
/-! ### what is void -/
mutual
theorem void_free {ks : List Nat} : ∀ (p : PV), (∀ k ∈ ks, k ∉ p.ids) → p.void ks = p
  | .os r, h => by
    have : r ∉ ks := fun hr => h r hr (by simp [PV.ids])
    simp [PV.void, this]
  | .vw b r lo n, h => by
    have : r ∉ ks := fun hr => h r hr (by simp [PV.ids])
    simp [PV.void, this]
  | .rf m r, h => by
    have : r ∉ ks := fun hr => h r hr (by simp [PV.ids])
    simp [PV.void, this]
  | .mpv _ _ _ _ _ _, _ => rfl
  | .pt r i j, h => by
    have : r ∉ ks := fun hr => h r hr (by simp [PV.ids])
    simp [PV.void, this]
  | .agg cs, h => by simp only [PV.void, PV.agg.injEq]; exact void_freeL cs (by simpa only [PV.ids] using h)
  | .tup cs, h => by simp only [PV.void, PV.tup.injEq]; exact void_freeL cs (by simpa only [PV.ids] using h)
  | .fn f a b, h => by
    simp only [PV.ids, List.mem_append, not_or] at h
    simp only [PV.void, PV.fn.injEq]
    exact ⟨trivial, void_freeL a fun k hk => (h k hk).1, void_freeL b fun k hk => (h k hk).2⟩
  | .cnd g p, h => by simp only [PV.void, PV.cnd.injEq]; exact ⟨trivial, void_free p (by simpa only [PV.ids] using h)⟩
  | .int _ _, _ => rfl
  | .bool _, _ => rfl
  | .str _, _ => rfl
  | .sl _ _ _ _, _ => rfl
  | .nil _, _ => rfl
  | .rp _ _, _ => rfl
  | .raw _, _ => rfl
  | .junk, _ => rfl
theorem void_freeL {ks : List Nat} : ∀ (l : List PV), (∀ k ∈ ks, k ∉ PV.idsL l) → PV.voidL ks l = l
  | [], _ => rfl
  | p :: ps, h => by
    simp only [PV.idsL, List.mem_append, not_or] at h
    simp only [PV.voidL, List.cons.injEq]
    exact ⟨void_free p fun k hk => (h k hk).1, void_freeL ps fun k hk => (h k hk).2⟩
end
mutual
theorem nj_void {ks : List Nat} : ∀ (p : PV), (p.void ks).nj = true → p.void ks = p
  | .os r, h => by
    by_cases hr : r ∈ ks
    · simp [PV.void, hr, PV.nj] at h
    · simp [PV.void, hr]
  | .vw b r lo n, h => by
    by_cases hr : r ∈ ks
    · simp [PV.void, hr, PV.nj] at h
    · simp [PV.void, hr]
  | .rf m r, h => by
    by_cases hr : r ∈ ks
    · simp [PV.void, hr, PV.nj] at h
    · simp [PV.void, hr]
  | .mpv _ _ _ _ _ _, _ => rfl
  | .pt r i j, h => by
    by_cases hr : r ∈ ks
    · simp [PV.void, hr, PV.nj] at h
    · simp [PV.void, hr]
  | .agg cs, h => by simp only [PV.void, PV.nj, PV.agg.injEq] at h ⊢; exact nj_voidL cs h
  | .tup cs, h => by simp only [PV.void, PV.nj, PV.tup.injEq] at h ⊢; exact nj_voidL cs h
  | .fn f a b, h => by
    simp only [PV.void, PV.nj, Bool.and_eq_true, PV.fn.injEq] at h ⊢
    exact ⟨trivial, nj_voidL a h.1, nj_voidL b h.2⟩
  | .cnd g p, h => by simp only [PV.void, PV.nj, PV.cnd.injEq] at h ⊢; exact ⟨trivial, nj_void p h⟩
  | .int _ _, _ => rfl
  | .bool _, _ => rfl
  | .str _, _ => rfl
  | .sl _ _ _ _, _ => rfl
  | .nil _, _ => rfl
  | .rp _ _, _ => rfl
  | .raw _, _ => rfl
  | .junk, _ => rfl
theorem nj_voidL {ks : List Nat} : ∀ (l : List PV), PV.njL (PV.voidL ks l) = true → PV.voidL ks l = l
  | [], _ => rfl
  | p :: ps, h => by
    simp only [PV.voidL, PV.njL, Bool.and_eq_true, List.cons.injEq] at h ⊢
    exact ⟨nj_void p h.1, nj_voidL ps h.2⟩
end
mutual
theorem void_comm (a b : List Nat) : ∀ (p : PV), (p.void a).void b = (p.void b).void a
  | .os r => by
    by_cases h1 : r ∈ a <;> by_cases h2 : r ∈ b <;> simp [PV.void, h1, h2]
  | .vw h r lo n => by
    by_cases h1 : r ∈ a <;> by_cases h2 : r ∈ b <;> simp [PV.void, h1, h2]
  | .rf m r => by
    by_cases h1 : r ∈ a <;> by_cases h2 : r ∈ b <;> simp [PV.void, h1, h2]
  | .mpv _ _ _ _ _ _ => rfl
  | .pt r i j => by
    by_cases h1 : r ∈ a <;> by_cases h2 : r ∈ b <;> simp [PV.void, h1, h2]
  | .agg cs => by simp only [PV.void, void_commL a b cs]
  | .tup cs => by simp only [PV.void, void_commL a b cs]
  | .fn f x y => by simp only [PV.void, void_commL a b x, void_commL a b y]
  | .cnd g p => by simp only [PV.void, void_comm a b p]
  | .int _ _ => rfl
  | .bool _ => rfl
  | .str _ => rfl
  | .sl _ _ _ _ => rfl
  | .nil _ => rfl
  | .rp _ _ => rfl
  | .raw _ => rfl
  | .junk => rfl
theorem void_commL (a b : List Nat) : ∀ (l : List PV), PV.voidL b (PV.voidL a l) = PV.voidL a (PV.voidL b l)
  | [] => rfl
  | p :: ps => by simp only [PV.voidL, void_comm a b p, void_commL a b ps]
end
theorem svoid_comm (a b : List Nat) : ∀ (e : SE), (e.void a).void b = (e.void b).void a
  | .box l => by simp only [SE.void, void_commL a b l]
  | .row .. => rfl
  | .bld .. => rfl
theorem svoid_free {ks : List Nat} : ∀ {l : List SE}, (∀ k ∈ ks, k ∉ SE.idsL l) → ∀ e ∈ l, e.void ks = e
  | .box l' :: l, h, e, he => by
    simp only [SE.idsL, List.mem_append, not_or] at h
    rcases List.mem_cons.1 he with rfl | he
    · simp only [SE.void, SE.box.injEq]; exact void_freeL l' fun k hk => (h k hk).1
    · exact svoid_free (fun k hk => (h k hk).2) e he
  | .row .. :: l, h, e, he => by
    rcases List.mem_cons.1 he with rfl | he
    · rfl
    · exact svoid_free (by simpa only [SE.idsL] using h) e he
  | .bld .. :: l, h, e, he => by
    rcases List.mem_cons.1 he with rfl | he
    · rfl
    · exact svoid_free (by simpa only [SE.idsL] using h) e he
theorem snj_mem : ∀ {l : List SE} {e : SE}, SE.njL l = true → e ∈ l → ∀ e' ks, e = SE.void ks e' → e = e'
  | .box l' :: l, e, h, he, e', ks, hv => by
    simp only [SE.njL, Bool.and_eq_true] at h
    rcases List.mem_cons.1 he with rfl | he
    · cases e' with
      | box l2 =>
        simp only [SE.void, SE.box.injEq] at hv ⊢
        rw [hv] at h ⊢
        exact nj_voidL l2 h.1
      | row => simp [SE.void] at hv
      | bld => simp [SE.void] at hv
    · exact snj_mem h.2 he e' ks hv
  | .row .. :: l, e, h, he, e', ks, hv => by
    rcases List.mem_cons.1 he with rfl | he
    · cases e' with
      | box l2 => simp [SE.void] at hv
      | row => exact hv
      | bld => simp [SE.void] at hv
    · exact snj_mem (by simpa only [SE.njL] using h) he e' ks hv
  | .bld .. :: l, e, h, he, e', ks, hv => by
    rcases List.mem_cons.1 he with rfl | he
    · cases e' with
      | box l2 => simp [SE.void] at hv
      | row => simp [SE.void] at hv
      | bld => exact hv
    · exact snj_mem (by simpa only [SE.njL] using h) he e' ks hv
theorem strip_ids (G : Bool) : ∀ (l : List PV), PV.idsL (stripL G l).2 = PV.idsL l ∧ PV.njL (stripL G l).2 = PV.njL l
  | [] => ⟨rfl, rfl⟩
  | p :: ps => by
    obtain ⟨h1, h2⟩ := strip_ids G ps
    cases p <;> simp only [stripL, PV.idsL, PV.njL, PV.ids, PV.nj, h1, h2, and_self]
theorem stripI_ids (i : I) (G : Bool) (l : List PV) : PV.idsL (stripI i G l).2 = PV.idsL l ∧ PV.njL (stripI i G l).2 = PV.njL l := by
  have hS : PV.idsL (stripS G l).2 = PV.idsL l ∧ PV.njL (stripS G l).2 = PV.njL l := by
    unfold stripS; split
    · exact ⟨rfl, rfl⟩
    · exact strip_ids G l
  unfold stripI
  split
  · split
    · exact ⟨rfl, rfl⟩
    · exact ⟨rfl, rfl⟩
  · exact hS
/-! ### the store, point by point -/
def wrLast : List (Nat × SE) → Nat → Option SE
  | [], _ => none
  | (k, e) :: r, x => match wrLast r x with
    | some e' => some e'
    | none => if x = k then some e else none
theorem wrS_pt : ∀ (wr : List (Nat × SE)) (st : Nat → Option SE) (x : Nat), wrS wr st x = match wrLast wr x with
    | some e => some e
    | none => st x
  | [], st, x => rfl
  | (k, e) :: r, st, x => by
    simp only [wrS, wrLast]
    rw [wrS_pt r _ x]
    cases wrLast r x with
    | some e' => rfl
    | none =>
      simp only [upd_eq]
      split <;> rfl
theorem wrLast_mem : ∀ {wr : List (Nat × SE)} {x : Nat} {e : SE}, wrLast wr x = some e → ∃ p ∈ wr, p.1 = x
  | [], x, e, h => by cases h
  | (k, e0) :: r, x, e, h => by
    simp only [wrLast] at h
    split at h
    · rename_i e' he
      obtain ⟨p, hp, hx⟩ := wrLast_mem he
      exact ⟨p, List.mem_cons_of_mem _ hp, hx⟩
    · split at h
      · rename_i hx; exact ⟨(k, e0), by simp, hx.symm⟩
      · cases h
theorem wrLast_val : ∀ {wr : List (Nat × SE)} {x : Nat} {e : SE}, wrLast wr x = some e → e ∈ wr.map (·.2)
  | [], x, e, h => by cases h
  | (k, e0) :: r, x, e, h => by
    simp only [wrLast] at h
    split at h
    · rename_i e' he
      injection h with h; subst h
      exact List.mem_cons_of_mem _ (wrLast_val he)
    · split at h
      · injection h with h; subst h; exact List.mem_cons_self
      · cases h
theorem nwS_mk : ∀ (es : List SE) (d : Nat) (st : Nat → Option SE), (∀ k, k < es.length → st (d + k) = none) → ∃ st', nwS d es st = some st'
  | [], d, st, h => ⟨st, rfl⟩
  | e :: es, d, st, h => by
    have h0 := h 0 (by simp)
    rw [Nat.add_zero] at h0
    simp only [nwS, h0]
    refine nwS_mk es (d + 1) _ fun k hk => ?_
    rw [upd_ne st e (by omega), show d + 1 + k = d + (k + 1) from by omega]
    exact h (k + 1) (by simp; omega)
theorem nwS_pt {es : List SE} {d : Nat} {st st' : Nat → Option SE} (h : nwS d es st = some st') (x : Nat) : st' x = if d ≤ x ∧ x < d + es.length then es[x - d]? else st x := by
  obtain ⟨h1, h2⟩ := nwS_get es d st st' h
  split
  · rename_i hx
    obtain ⟨h3, h4⟩ := hx
    have hk : es[x - d]? = some (es[x - d]'(by omega)) := List.getElem?_eq_getElem (by omega)
    have := (h1 _ _ hk).1
    rw [show d + (x - d) = x from by omega] at this
    rw [this, hk]
  · rename_i hx
    exact h2 x (by omega)
theorem newSt_pt {d : Nat} {k : List Nat} {wr : List (Nat × SE)} {es : List SE} {st st' : Nat → Option SE} (h : newSt d k [] wr es st = some st') (x : Nat) : st' x = if d ≤ x ∧ x < d + es.length then es[x - d]? else match wrLast wr x with
    | some e => some e
    | none => (st x).map (SE.void k) := by
  rw [newSt_eq, rmS_nil] at h
  rw [nwS_pt h x, wrS_pt]; rfl
theorem nwS_free {es : List SE} {d : Nat} {st st' : Nat → Option SE} (h : nwS d es st = some st') (x : Nat) (hx : d ≤ x ∧ x < d + es.length) : st x = none := by
  obtain ⟨h1, h2⟩ := nwS_get es d st st' h
  have hk : es[x - d]? = some (es[x - d]'(by omega)) := List.getElem?_eq_getElem (by omega)
  have := (h1 _ _ hk).2
  rwa [show d + (x - d) = x from by omega] at this
theorem newSt_free {d : Nat} {k : List Nat} {wr : List (Nat × SE)} {es : List SE} {st st' : Nat → Option SE} (h : newSt d k [] wr es st = some st') (x : Nat) (hx : d ≤ x ∧ x < d + es.length) : st x = none ∧ wrLast wr x = none := by
  rw [newSt_eq, rmS_nil] at h
  have := nwS_free h x hx
  rw [wrS_pt] at this
  split at this
  · cases this
  · rename_i hw
    refine ⟨?_, hw⟩
    cases hs : st x with
    | none => rfl
    | some e => simp [voidS, hs] at this
theorem newSt_mk {d : Nat} {k : List Nat} {wr : List (Nat × SE)} {es : List SE} {st : Nat → Option SE} (h : ∀ m, m < es.length → st (d + m) = none ∧ wrLast wr (d + m) = none) : ∃ st', newSt d k [] wr es st = some st' := by
  rw [newSt_eq, rmS_nil]
  refine nwS_mk es d _ fun m hm => ?_
  obtain ⟨h1, h2⟩ := h m hm
  rw [wrS_pt, h2]; simp [voidS, h1]
end Pv
end Go.Proofs.YtafnkpmoolbjjaaDoor
/- TWO STEPS THAT DO NOT DISTURB ONE ANOTHER, SECOND PART: the exchange. -/
set_option linter.unusedSimpArgs false
set_option linter.unusedVariables false
namespace Go.Proofs.YtafnkpmoolbjjaaDoor
namespace Pv
open Go.RowKit
section
variable {S : FuncId → List PV → List SE → CallRes → Prop} {c c' : CallRes} {i j : Nat} {x y : Ins} {s s' s₁ s₂ : PS}
theorem okO_mk : ∀ (l : List Prop) (ok : Prop), ∃ ok', okO ok l = some ok'
  | [], ok => ⟨ok, rfl⟩
  | _ :: ps, _ => okO_mk ps _
theorem okG_mk (G : Bool) : ∀ (l : List Prop) (ok : Prop), ∃ ok', okG G ok l = some ok'
  | [], ok => ⟨ok, rfl⟩
  | _ :: ps, _ => okG_mk G ps _
theorem stepI_mk2 {G : Bool} {vs : List PV} {cs cs2 : List SE} {E : Eff} (H : StepP S true c i x s s' G vs cs E) {st₂ : Nat → Option SE} (hg : guardV s₂.fr x.g = guardV s.fr x.g) (hv : valL s₂.fr x.i.opr = valL s.fr x.i.opr)
    (hc : getL s₂.st (x.i.acc vs) = some cs2) (hE2 : eff S c x.id x.i vs (x.i.acc vs) cs2 = some E) (hst : newSt x.id E.kill E.rm E.wr E.nw s₂.st = some st₂) (hn : s₂.n = s.n) :
    ∃ s₂', stepI S true c i x s₂ = some s₂' ∧ StepP S true c i x s₂ s₂' G vs cs2 E := by
  obtain ⟨vs0, hv0, hvs, _⟩ := H.vals
  have key : ∃ s₂', stepI S true c i x s₂ = some s₂' := by
    have h1 := H.guard
    have h2 := hc
    have h3 := hE2
    have h5 := H.dlt
    have h6 := H.gd
    rw [← hg] at h1
    rw [← hv] at hv0
    obtain ⟨n, fr, st, ok, log⟩ := s₂
    obtain ⟨od, oid, og, oi⟩ := x
    obtain ⟨val, side, wr, nw, kill, rm⟩ := E
    simp only at *
    unfold stepI
    simp only [h1, hv0]
    rw [hvs]
    simp only [h2, h3, logO]
    cases og with
    | none =>
      obtain ⟨ok', hok⟩ := okO_mk ((stripI oi G vs0).1 ++ side) ok
      simp only [hok, hst, newFr_eq, norm_some]
      cases od with
      | none => exact ⟨_, rfl⟩
      | some d =>
        have := h5 d rfl
        have hb : Nat.blt d n = true := by rw [Nat.blt_eq, hn]; exact this
        simp only [hb]
        exact ⟨_, rfl⟩
    | some g =>
      obtain ⟨e1, e2, e3, e4, e5⟩ := h6 (by simp)
      subst e1 e2 e3 e4
      cases od with
      | none => exact absurd rfl e5
      | some d =>
        obtain ⟨ok', hok⟩ := okG_mk G ((stripI oi G vs0).1 ++ side) ok
        have := h5 d rfl
        have hb : Nat.blt d n = true := by rw [Nat.blt_eq, hn]; exact this
        simp only [hok, norm_some, hb]
        exact ⟨_, rfl⟩
  obtain ⟨s₂', h⟩ := key
  obtain ⟨G', vs', cs', E', H'⟩ := stepI_parts h
  have g1 := H'.guard
  rw [hg, H.guard] at g1; injection g1 with g1; subst g1
  obtain ⟨vs0', hv0', hvs', _⟩ := H'.vals
  rw [hv, hv0] at hv0'; injection hv0' with hv0'; subst hv0'
  have e1 : vs = vs' := by
    have a1 : (stripI x.i G vs0).2 = vs := by rw [hvs]
    have a2 : (stripI x.i G vs0).2 = vs' := by rw [hvs']
    exact a1.symm.trans a2
  subst e1
  have g2 := H'.ent
  rw [hc] at g2; injection g2 with g2; subst g2
  have g3 := H'.eff
  rw [hE2] at g3; injection g3 with g3; subst g3
  exact ⟨s₂', h, H'⟩
theorem stepI_mk {G : Bool} {vs : List PV} {cs : List SE} {E : Eff} (H : StepP S true c i x s s' G vs cs E) {st₂ : Nat → Option SE} (hg : guardV s₂.fr x.g = guardV s.fr x.g) (hv : valL s₂.fr x.i.opr = valL s.fr x.i.opr)
    (hc : getL s₂.st (x.i.acc vs) = getL s.st (x.i.acc vs)) (hst : newSt x.id E.kill E.rm E.wr E.nw s₂.st = some st₂) (hn : s₂.n = s.n) :
    ∃ s₂', stepI S true c i x s₂ = some s₂' ∧ StepP S true c i x s₂ s₂' G vs cs E :=
  stepI_mk2 H hg hv (hc.trans H.ent) H.eff hst hn
structure Sim (s s' : PS) : Prop where
  n : s.n = s'.n
  fr : s.fr = s'.fr
  st : s.st = s'.st
  log : s.log = s'.log
  ok : s.ok ↔ s'.ok
theorem Sim.refl (s : PS) : Sim s s := ⟨rfl, rfl, rfl, rfl, Iff.rfl⟩
theorem Sim.trans (h : Sim s s') (h' : Sim s' s₁) : Sim s s₁ := ⟨h.n.trans h'.n, h.fr.trans h'.fr, h.st.trans h'.st, h.log.trans h'.log, h.ok.trans h'.ok⟩
theorem stepI_sim (h : Sim s s₁) (hs : stepI S true c i x s = some s') : ∃ s₁', stepI S true c i x s₁ = some s₁' ∧ Sim s' s₁' := by
  obtain ⟨G, vs, cs, E, H⟩ := stepI_parts hs
  obtain ⟨s₁', h1, H1⟩ := stepI_mk (s₂ := s₁) (st₂ := s'.st) H (by rw [h.fr]) (by rw [h.fr]) (by rw [h.st]) (by rw [← h.st]; exact H.st) h.n.symm
  refine ⟨s₁', h1, by rw [H.n, H1.n, h.n], by rw [H.fr, H1.fr, h.fr], ?_, ?_, ?_⟩
  · have a := H.st; rw [h.st, H1.st] at a; injection a with a; exact a.symm
  · have a := H.log; rw [h.log, H1.log] at a; injection a with a; exact a.symm
  · obtain ⟨vs0, hv0, _, hok⟩ := H.vals
    obtain ⟨vs0', hv0', _, hok'⟩ := H1.vals
    rw [← h.fr, hv0] at hv0'; injection hv0' with hv0'; subst hv0'
    rw [hok, hok', h.ok]
theorem evL_sim {cr : Nat → CallRes} : ∀ {l : List (Nat × Ins)} {s s' s₁ : PS}, Sim s s₁ → evL S true cr l s = some s' → ∃ s₁', evL S true cr l s₁ = some s₁' ∧ Sim s' s₁'
  | [], s, s', s₁, h, hs => by simp only [evL, Option.some.injEq] at hs; subst hs; exact ⟨s₁, rfl, h⟩
  | (i, x) :: r, s, s', s₁, h, hs => by
    simp only [evL, stepX] at hs
    split at hs
    · rename_i s2 h2
      obtain ⟨s2', h3, h4⟩ := stepI_sim h h2
      simp only [evL, stepX, h3]
      exact evL_sim h4 hs
    · cases hs
theorem val_same {fr fr' : Nat → Option PV} : ∀ {l : List A}, (∀ t ∈ l.flatMap A.slots, fr t = fr' t) → valL fr l = valL fr' l
  | [], _ => rfl
  | a :: l, h => by
    have h1 : A.val fr a = A.val fr' a := by
      cases a with
      | t n => exact h n (by simp [A.slots])
      | c p => rfl
    have h2 := val_same (l := l) (fr := fr) (fr' := fr') (fun t ht => h t (by simp only [List.flatMap_cons, List.mem_append]; exact .inr ht))
    simp only [valL, h1, h2]
theorem guard_same {fr fr' : Nat → Option PV} {g : Option (Nat × Bool)} (h : ∀ t w, g = some (t, w) → fr t = fr' t) : guardV fr g = guardV fr' g := by
  cases g with
  | none => rfl
  | some tw => obtain ⟨t, w⟩ := tw; simp only [guardV, h t w rfl]
theorem getL_same {st st' : Nat → Option SE} : ∀ {l : List Nat}, (∀ r ∈ l, st r = st' r) → getL st l = getL st' l
  | [], _ => rfl
  | a :: l, h => by
    simp only [getL, h a (by simp), getL_same (l := l) (fun r hr => h r (by simp [hr]))]
theorem slotsApart_spec (h : slotsApart x y = true) : (∀ d, x.d = some d → d ∉ y.reads) ∧ (∀ d, x.d = some d → y.d ≠ some d) ∧ (∀ d, y.d = some d → d ∉ x.reads) := by
  unfold slotsApart at h
  refine ⟨fun d hd => ?_, fun d hd => ?_, fun d hd => ?_⟩ <;> simp [hd] at h
  · exact h.1.1
  · exact h.1.2
  · exact h.2
theorem StepP.logAt {G : Bool} {vs : List PV} {cs : List SE} {E : Eff} (H : StepP S true c i x s s' G vs cs E) : s'.log = upd s.log i ⟨x.i.acc vs, E.wr.map (·.1), !E.rm.isEmpty, E.kill, PV.idsL vs ++ (SE.idsL (logCs x.i cs E.val) ++ (E.val.ids ++ (SE.idsL (E.wr.map (·.2)) ++ SE.idsL E.nw))), PV.njL vs && SE.njL (logCs x.i cs E.val), (x.i.acc vs).isEmpty && (E.wr.isEmpty && (E.nw.isEmpty && (E.kill.isEmpty && E.rm.isEmpty))), E.wr.isEmpty && (E.nw.isEmpty && (E.kill.isEmpty && E.rm.isEmpty)), E.rm⟩ := by
  have := H.log
  simp only [logO, Option.some.injEq] at this
  exact this.symm
/-! ### operands and entries, behind a step that has made some headers void -/
theorem valL_nj {fr fr' : Nat → Option PV} {ks : List Nat} : ∀ {l : List A} {vs : List PV}, (∀ t ∈ l.flatMap A.slots, fr' t = (fr t).map (PV.void ks)) → valL fr' l = some vs → (ks = [] ∨ PV.njL vs = true) → valL fr l = some vs
  | [], vs, _, h, _ => h
  | a :: l, vs, hs, h, hn => by
    simp only [valL] at h
    split at h
    · rename_i p ps hp hps
      injection h with h; subst h
      have hn1 : ks = [] ∨ p.nj = true := hn.imp id fun h => by simp only [PV.njL, Bool.and_eq_true] at h; exact h.1
      have hn2 : ks = [] ∨ PV.njL ps = true := hn.imp id fun h => by simp only [PV.njL, Bool.and_eq_true] at h; exact h.2
      have e2 := valL_nj (fun t ht => hs t (by simp only [List.flatMap_cons, List.mem_append]; exact .inr ht)) hps hn2
      have e1 : A.val fr a = some p := by
        cases a with
        | t n =>
          simp only [A.val] at hp ⊢
          rw [hs n (by simp [A.slots])] at hp
          cases hf : fr n with
          | none => rw [hf] at hp; cases hp
          | some q =>
            rw [hf] at hp
            simp only [Option.map_some, Option.some.injEq] at hp
            rcases hn1 with rfl | hn1
            · rw [void_nil] at hp; rw [hp]
            · rw [← hp] at hn1
              rw [← hp, nj_void q hn1]
        | c q => exact hp
      simp only [valL, e1, e2]
    · cases h
theorem valL_free {fr fr' : Nat → Option PV} {ks : List Nat} : ∀ {l : List A} {vs : List PV}, (∀ t ∈ l.flatMap A.slots, fr' t = (fr t).map (PV.void ks)) → valL fr l = some vs → (∀ k ∈ ks, k ∉ PV.idsL vs) → valL fr' l = some vs
  | [], vs, _, h, _ => h
  | a :: l, vs, hs, h, hn => by
    simp only [valL] at h
    split at h
    · rename_i p ps hp hps
      injection h with h; subst h
      simp only [PV.idsL, List.mem_append, not_or] at hn
      have e2 := valL_free (fun t ht => hs t (by simp only [List.flatMap_cons, List.mem_append]; exact .inr ht)) hps (fun k hk => (hn k hk).2)
      have e1 : A.val fr' a = some p := by
        cases a with
        | t n =>
          simp only [A.val] at hp ⊢
          rw [hs n (by simp [A.slots]), hp]
          simp only [Option.map_some, void_free p fun k hk => (hn k hk).1]
        | c q => exact hp
      simp only [valL, e1, e2]
    · cases h
theorem guard_void {fr fr' : Nat → Option PV} {ks : List Nat} {g : Option (Nat × Bool)} (h : ∀ t w, g = some (t, w) → fr' t = (fr t).map (PV.void ks)) : guardV fr' g = guardV fr g := by
  cases g with
  | none => rfl
  | some tw =>
    obtain ⟨t, w⟩ := tw
    simp only [guardV, h t w rfl]
    cases fr t with
    | none => rfl
    | some p =>
      cases p with
      | cnd g q =>
        cases q with
        | os r => by_cases hr : r ∈ ks <;> simp [PV.void, hr]
        | pt r i j => by_cases hr : r ∈ ks <;> simp [PV.void, hr]
        | vw h r lo n => by_cases hr : r ∈ ks <;> simp [PV.void, hr]
        | rf m r => by_cases hr : r ∈ ks <;> simp [PV.void, hr]
        | _ => simp [PV.void]
      | os r => by_cases hr : r ∈ ks <;> simp [PV.void, hr]
      | pt r i j => by_cases hr : r ∈ ks <;> simp [PV.void, hr]
      | vw h r lo n => by_cases hr : r ∈ ks <;> simp [PV.void, hr]
      | rf m r => by_cases hr : r ∈ ks <;> simp [PV.void, hr]
      | _ => simp [PV.void]
theorem getL_nj {st st' : Nat → Option SE} {ks : List Nat} : ∀ {l : List Nat} {cs : List SE}, (∀ r ∈ l, st' r = (st r).map (SE.void ks)) → getL st' l = some cs → (ks = [] ∨ SE.njL cs = true) → getL st l = some cs
  | [], cs, _, h, _ => h
  | r :: l, cs, hs, h, hn => by
    simp only [getL] at h
    split at h
    · rename_i e es he hes
      injection h with h; subst h
      have hn2 : ks = [] ∨ SE.njL es = true := hn.imp id fun h => by
        cases e <;> simp only [SE.njL, Bool.and_eq_true] at h
        · exact h.2
        · exact h
        · exact h
      have e2 := getL_nj (fun r hr => hs r (by simp [hr])) hes hn2
      have e1 : st r = some e := by
        rw [hs r (by simp)] at he
        cases hf : st r with
        | none => rw [hf] at he; cases he
        | some e' =>
          rw [hf] at he
          simp only [Option.map_some, Option.some.injEq] at he
          rcases hn with rfl | hn
          · rw [svoid_nil] at he; rw [he]
          · rw [snj_mem hn (by simp : e ∈ e :: es) e' ks he.symm]
      simp only [getL, e1, e2]
    · cases h
theorem getL_free {st st' : Nat → Option SE} {ks : List Nat} : ∀ {l : List Nat} {cs : List SE}, (∀ r ∈ l, st' r = (st r).map (SE.void ks)) → getL st l = some cs → (∀ k ∈ ks, k ∉ SE.idsL cs) → getL st' l = some cs
  | [], cs, _, h, _ => h
  | r :: l, cs, hs, h, hn => by
    simp only [getL] at h
    split at h
    · rename_i e es he hes
      injection h with h; subst h
      have hn2 : ∀ k ∈ ks, k ∉ SE.idsL es := fun k hk => by
        have := hn k hk
        cases e <;> simp only [SE.idsL, List.mem_append, not_or] at this
        · exact this.2
        · exact this
        · exact this
      have e2 := getL_free (fun r hr => hs r (by simp [hr])) hes hn2
      have e1 : st' r = some e := by
        rw [hs r (by simp), he]
        simp only [Option.map_some, svoid_free hn e (by simp)]
      simp only [getL, e1, e2]
    · cases h
/-! ### reads, behind a step that has made some headers void -/
theorem voidL_map (ks : List Nat) : ∀ (l : List PV), PV.voidL ks l = l.map (PV.void ks)
  | [] => rfl
  | p :: ps => by simp only [PV.voidL, List.map_cons, voidL_map ks ps]
theorem part_void (ks : List Nat) (l : List PV) (j n : Nat) : ((PV.voidL ks l).drop j).take n = PV.voidL ks ((l.drop j).take n) := by
  simp only [voidL_map, List.map_drop, List.map_take]
theorem asV_back {ks : List Nat} {n : Nat} {agg : Bool} {l : List PV} {p : PV} (h : asV n agg (PV.voidL ks l) = some p) (hn : p.nj = true) : asV n agg l = some p := by
  unfold asV at h ⊢
  rw [voidL_length] at h
  split at h
  · rename_i hl
    rw [if_pos hl]
    split at h
    · injection h with h; subst h
      simp only [PV.nj] at hn
      rw [nj_voidL l hn]; rename_i ha; rw [if_pos ha]
    · rename_i ha
      rw [if_neg ha]
      split at h
      · rename_i c hc
        injection h with h; subst h
        cases l with
        | nil => simp [PV.voidL] at hc
        | cons a r =>
          cases r with
          | nil =>
            simp only [PV.voidL, List.cons.injEq, and_true] at hc
            subst hc
            rw [nj_void a hn]
          | cons _ _ => simp [PV.voidL] at hc
      · cases h
  · cases h
theorem asV_free {ks : List Nat} {n : Nat} {agg : Bool} {l : List PV} {p : PV} (h : asV n agg l = some p) (hn : ∀ k ∈ ks, k ∉ p.ids) : asV n agg (PV.voidL ks l) = some p := by
  have : PV.voidL ks l = l := by
    unfold asV at h
    split at h
    · split at h
      · injection h with h; subst h
        exact void_freeL l (by simpa only [PV.ids] using hn)
      · split at h
        · injection h with h; subst h
          simp only [PV.voidL, void_free _ hn]
        · cases h
    · cases h
  rw [this]; exact h
theorem map_one {ks : List Nat} {cs : List SE} {e : SE} (h : cs.map (SE.void ks) = [e]) : ∃ e', cs = [e'] ∧ e'.void ks = e := by
  cases cs with
  | nil => cases h
  | cons a r =>
    cases r with
    | nil => simp only [List.map_cons, List.map_nil, List.cons.injEq, and_true] at h; exact ⟨a, rfl, h⟩
    | cons _ _ => simp at h
theorem mpB_void {ks : List Nat} : ∀ l : List PV, mpB (PV.voidL ks l) = mpB l
  | [] => rfl
  | [p] => by
    have key : ∀ (r : Nat) (q : PV), mpB [q] = false → mpB [if r ∈ ks then PV.junk else q] = false := fun r q h => by
      by_cases hr : r ∈ ks
      · rw [if_pos hr]; rfl
      · rw [if_neg hr]; exact h
    simp only [PV.voidL]
    cases p <;> simp only [PV.void] <;> first | rfl | exact key _ _ rfl
  | p :: q :: r => by
    have h2 : ∀ (a b : PV) (l : List PV), mpB (a :: b :: l) = false := fun a b l => by
      cases a <;> rfl
    simp only [PV.voidL, h2]
theorem eLd_back {ks : List Nat} {n : Nat} {agg : Bool} {vs : List PV} {cs : List SE} {E : Eff} (h : eLd n agg vs (cs.map (SE.void ks)) = some E) (hn : E.val.nj = true) : eLd n agg vs cs = some E := by
  unfold eLd at h
  split at h
  · rename_i r i j cells hc
    obtain ⟨e', rfl, he⟩ := map_one hc
    cases e' with
    | box l =>
      simp only [SE.void, SE.box.injEq] at he
      subst he
      rw [part_void, mpB_void] at h
      split at h
      · rename_i hi
        split at h
        · rename_i p hp
          injection h with h; subst h
          simp only [eLd, if_pos hi, asV_back hp hn]
        · cases h
      · cases h
    | row => simp [SE.void] at he
    | bld => simp [SE.void] at he
  · rename_i r i j τ e z m f hc
    obtain ⟨e', rfl, he⟩ := map_one hc
    cases e' with
    | box l => simp [SE.void] at he
    | row τ' e' z' m' f' =>
      simp only [SE.void, SE.row.injEq] at he
      obtain ⟨rfl, rfl, rfl, rfl, rfl⟩ := he
      exact h
    | bld => simp [SE.void] at he
  · exact h
  · cases h
theorem eLd_free {ks : List Nat} {n : Nat} {agg : Bool} {vs : List PV} {cs : List SE} {E : Eff} (h : eLd n agg vs cs = some E) (hn : ∀ k ∈ ks, k ∉ E.val.ids) : eLd n agg vs (cs.map (SE.void ks)) = some E := by
  unfold eLd at h
  split at h
  · rename_i r i j cells
    split at h
    · rename_i hi
      split at h
      · rename_i p hp
        injection h with h; subst h
        simp only [List.map_cons, List.map_nil, SE.void, eLd, mpB_void, if_pos hi, part_void]
        rw [asV_free hp hn]
      · cases h
    · cases h
  · exact h
  · exact h
  · cases h
theorem getL_back {st st' : Nat → Option SE} {ks : List Nat} : ∀ {l : List Nat} {cs : List SE}, (∀ r ∈ l, st' r = (st r).map (SE.void ks)) → getL st' l = some cs → ∃ cs', getL st l = some cs' ∧ cs = cs'.map (SE.void ks)
  | [], cs, _, h => by simp only [getL, Option.some.injEq] at h; subst h; exact ⟨[], rfl, rfl⟩
  | r :: l, cs, hs, h => by
    simp only [getL] at h
    split at h
    · rename_i e es he hes
      injection h with h; subst h
      obtain ⟨cs', h1, rfl⟩ := getL_back (fun r hr => hs r (by simp [hr])) hes
      rw [hs r (by simp)] at he
      obtain ⟨e', h2, rfl⟩ := Option.map_eq_some_iff.1 he
      exact ⟨e' :: cs', by simp only [getL, h1, h2], rfl⟩
    · cases h
theorem getL_fwd {st st' : Nat → Option SE} {ks : List Nat} : ∀ {l : List Nat} {cs : List SE}, (∀ r ∈ l, st' r = (st r).map (SE.void ks)) → getL st l = some cs → getL st' l = some (cs.map (SE.void ks))
  | [], cs, _, h => by simp only [getL, Option.some.injEq] at h; subst h; rfl
  | r :: l, cs, hs, h => by
    simp only [getL] at h
    split at h
    · rename_i e es he hes
      injection h with h; subst h
      have h1 := getL_fwd (fun r hr => hs r (by simp [hr])) hes
      have h2 := hs r (by simp)
      rw [he] at h2
      simp only [getL, h1, h2]; rfl
    · cases h
theorem ent_back {st st' : Nat → Option SE} {ks : List Nat} {y : I} {d : Nat} {vs : List PV} {l : List Nat} {cs : List SE} {E : Eff} (hs : ∀ r ∈ l, st' r = (st r).map (SE.void ks)) (he : getL st' l = some cs) (hE : eff S c d y vs l cs = some E)
    (hn : ks = [] ∨ SE.njL (logCs y cs E.val) = true) : ∃ cs', getL st l = some cs' ∧ eff S c d y vs l cs' = some E ∧ logCs y cs' E.val = logCs y cs E.val := by
  by_cases hy : ∃ n agg x, y = .ld n agg x
  · obtain ⟨n, agg, x, rfl⟩ := hy
    obtain ⟨cs', h1, rfl⟩ := getL_back hs he
    refine ⟨cs', h1, ?_, rfl⟩
    rcases hn with rfl | hn
    · have : cs'.map (SE.void []) = cs' := by
        rw [List.map_congr_left (g := id) fun e _ => svoid_nil e]; simp
      rw [this] at hE; exact hE
    · exact eLd_back hE (by simpa [logCs, SE.njL, PV.njL] using hn)
  · have hl : ∀ cs v, logCs y cs v = cs := fun cs v => by
      cases y <;> first | rfl | exact absurd ⟨_, _, _, rfl⟩ hy
    rw [hl] at hn
    exact ⟨cs, getL_nj hs he hn, hE, rfl⟩
theorem ent_free {st st' : Nat → Option SE} {ks : List Nat} {y : I} {d : Nat} {vs : List PV} {l : List Nat} {cs : List SE} {E : Eff} (hs : ∀ r ∈ l, st' r = (st r).map (SE.void ks)) (he : getL st l = some cs) (hE : eff S c d y vs l cs = some E)
    (hn : ∀ k ∈ ks, k ∉ SE.idsL (logCs y cs E.val)) : ∃ cs', getL st' l = some cs' ∧ eff S c d y vs l cs' = some E ∧ logCs y cs' E.val = logCs y cs E.val := by
  by_cases hy : ∃ n agg x, y = .ld n agg x
  · obtain ⟨n, agg, x, rfl⟩ := hy
    exact ⟨_, getL_fwd hs he, eLd_free hE (fun k hk => by have := hn k hk; simpa [logCs, SE.idsL, PV.idsL] using this), rfl⟩
  · have hl : ∀ cs v, logCs y cs v = cs := fun cs v => by
      cases y <;> first | rfl | exact absurd ⟨_, _, _, rfl⟩ hy
    rw [hl] at hn
    exact ⟨cs, getL_free hs he hn, hE, rfl⟩
theorem swap2 (hij : i ≠ j) (hA : stepI S true c i x s = some s₁) (hB : stepI S true c' j y s₁ = some s₂) (hid : x.id = 16 * x.d.getD 0) (hap : slotsApart x y = true)
    {eA eB : LogE} (hl : s₂.log i = some eA) (hl' : s₂.log j = some eB) (hrmA : eA.rm = false) (hrmB : eB.rm = false) (hd1 : ∀ r ∈ eA.ws, r ∉ eB.ids) (hd2 : ∀ r ∈ eB.ws, r ∉ eA.ids) (hnew : ∀ r ∈ eB.ids, r / 16 ≠ x.d.getD 0)
    (hk1 : ∀ k ∈ eA.ks, k ∉ eB.ms) (hk2 : ∀ k ∈ eB.ks, k ∉ eA.ms) (hnj : eA.ks = [] ∨ eB.nj = true) :
    ∃ s₁' s₂', stepI S true c' j y s = some s₁' ∧ stepI S true c i x s₁' = some s₂' ∧ Sim s₂ s₂' := by
  obtain ⟨GA, vA, cA, EA, HA⟩ := stepI_parts hA
  obtain ⟨GB, vB, cB, EB, HB⟩ := stepI_parts hB
  obtain ⟨p1, p2, p3⟩ := slotsApart_spec hap
  rw [HB.logAt, upd_ne _ _ hij, HA.logAt, upd_same] at hl
  rw [HB.logAt, upd_same] at hl'
  injection hl with hl; subst hl
  injection hl' with hl'; subst hl'
  simp only [Bool.not_eq_false', List.isEmpty_iff, List.mem_append, not_or, Bool.and_eq_true] at hrmA hrmB hd1 hd2 hnew hk1 hk2 hnj
  have hstA := HA.st; rw [hrmA] at hstA
  have hstB := HB.st; rw [hrmB] at hstB
  obtain ⟨tA1, tA2⟩ := eff_tame HA.eff
  obtain ⟨tB1, tB2⟩ := eff_tame HB.eff
  have hfrA := HA.fr
  have hfrB := HB.fr
  -- keys
  have hdk : ∀ q ∈ EA.wr, q.1 ∉ y.i.acc vB := fun q hq => hd1 _ (List.mem_map.2 ⟨q, hq, rfl⟩)
  have hdk' : ∀ q ∈ EB.wr, q.1 ∉ x.i.acc vA := fun q hq => hd2 _ (List.mem_map.2 ⟨q, hq, rfl⟩)
  have ptA := newSt_pt hstA
  have ptB := newSt_pt hstB
  have frA := newSt_free hstA
  have frB := newSt_free hstB
  have w1 : ∀ r, r ∉ (EA.wr.map (·.1)) → wrLast EA.wr r = none := fun r hr => by
    cases h : wrLast EA.wr r with
    | none => rfl
    | some e => obtain ⟨p, hp, hx⟩ := wrLast_mem h; exact absurd (List.mem_map.2 ⟨p, hp, hx⟩) hr
  have w2 : ∀ r, r ∉ (EB.wr.map (·.1)) → wrLast EB.wr r = none := fun r hr => by
    cases h : wrLast EB.wr r with
    | none => rfl
    | some e => obtain ⟨p, hp, hx⟩ := wrLast_mem h; exact absurd (List.mem_map.2 ⟨p, hp, hx⟩) hr
  have entA : ∀ r ∈ x.i.acc vA, ∃ e, s.st r = some e := fun r hr => by obtain ⟨e, he, _⟩ := getL_mem _ _ HA.ent r hr; exact ⟨e, he⟩
  have entB : ∀ r ∈ y.i.acc vB, ∃ e, s₁.st r = some e := fun r hr => by obtain ⟨e, he, _⟩ := getL_mem _ _ HB.ent r hr; exact ⟨e, he⟩
  -- what B looks at was there before A
  have same1 : ∀ r ∈ y.i.acc vB, s₁.st r = (s.st r).map (SE.void EA.kill) := fun r hr => by
    rw [ptA r, if_neg, w1 r]
    · intro hm
      obtain ⟨q, hq, rfl⟩ := List.mem_map.1 hm
      exact hdk q hq hr
    · intro hx
      have := hnew r hr
      omega
  have someA : ∀ r e, s.st r = some e → ∃ e', s₁.st r = some e' := fun r e he => by
    rw [ptA r]
    by_cases hx : x.id ≤ r ∧ r < x.id + EA.nw.length
    · have := (frA r hx).1
      rw [he] at this; cases this
    · rw [if_neg hx]
      split
      · exact ⟨_, rfl⟩
      · rw [he]; exact ⟨_, rfl⟩
  -- B's new entries are free before A
  have freeB : ∀ r, (y.id ≤ r ∧ r < y.id + EB.nw.length) → s.st r = none ∧ wrLast EB.wr r = none ∧ s₁.st r = none := fun r hr => by
    obtain ⟨h0, hw⟩ := frB r hr
    refine ⟨?_, hw, h0⟩
    cases hs : s.st r with
    | none => rfl
    | some e => obtain ⟨e', he'⟩ := someA r e hs; rw [h0] at he'; cases he'
  obtain ⟨stB, hstB'⟩ := newSt_mk (d := y.id) (k := EB.kill) (wr := EB.wr) (es := EB.nw) (st := s.st) (fun k hk => by
    obtain ⟨h1, h2, _⟩ := freeB (y.id + k) ⟨by omega, by omega⟩
    exact ⟨h1, h2⟩)
  have rdA : ∀ t, t ∈ y.reads → s₁.fr t = (s.fr t).map (PV.void EA.kill) := fun t ht => by
    rw [hfrA]
    cases hxd : x.d with
    | none => rfl
    | some d =>
      have hne : t ≠ d := by rintro rfl; exact p1 t hxd ht
      simp only [upd_ne _ _ hne]; rfl
  obtain ⟨vb0, hvb0, hvbs, hokB⟩ := HB.vals
  obtain ⟨sB1, sB2⟩ := stripI_ids y.i GB vb0
  have evB : (stripI y.i GB vb0).2 = vB := by rw [hvbs]
  rw [evB] at sB1 sB2
  have hvb : valL s.fr y.i.opr = some vb0 := valL_nj (fun t ht => rdA t (by simp only [Ins.reads, List.mem_append]; exact .inl ht)) hvb0 (hnj.imp id fun h => by rw [← sB2]; exact h.1)
  obtain ⟨cB2, hcb, hEb, hlB⟩ := ent_back same1 HB.ent HB.eff (hnj.imp id fun h => h.2)
  obtain ⟨s₁', hB', HB'⟩ := stepI_mk2 (s₂ := s) (st₂ := stB) HB (guard_void fun t w hg => rdA t (by simp only [Ins.reads, hg, List.mem_append]; right; simp)).symm
    (by rw [hvb, hvb0]) hcb hEb (by rw [hrmB]; exact hstB') HA.n.symm
  have hs1' : s₁'.st = stB := by have := HB'.st; rw [hrmB, hstB'] at this; injection this with this; exact this.symm
  have ptB' := newSt_pt hstB'
  have same2 : ∀ r ∈ x.i.acc vA, s₁'.st r = (s.st r).map (SE.void EB.kill) := fun r hr => by
    obtain ⟨e, he⟩ := entA r hr
    rw [hs1', ptB' r, if_neg, w2 r]
    · intro hm
      obtain ⟨q, hq, rfl⟩ := List.mem_map.1 hm
      exact hdk' q hq hr
    · intro hx
      rw [(freeB r hx).1] at he; cases he
  have freeA : ∀ r, (x.id ≤ r ∧ r < x.id + EA.nw.length) → s.st r = none ∧ wrLast EA.wr r = none ∧ (∃ e, s₁.st r = some e) := fun r hr => by
    obtain ⟨h0, hw⟩ := frA r hr
    refine ⟨h0, hw, ?_⟩
    rw [ptA r, if_pos hr]
    exact ⟨_, List.getElem?_eq_getElem (by omega)⟩
  have offB : ∀ r, (x.id ≤ r ∧ r < x.id + EA.nw.length) → ¬ (y.id ≤ r ∧ r < y.id + EB.nw.length) ∧ wrLast EB.wr r = none := fun r hr => by
    obtain ⟨h1, h2, e, h3⟩ := freeA r hr
    refine ⟨fun hx => ?_, w2 r fun hm => ?_⟩
    · rw [(freeB r hx).2.2] at h3; cases h3
    · obtain ⟨q, hq, rfl⟩ := List.mem_map.1 hm
      have hm2 := tB1 q hq
      obtain ⟨e', he'⟩ := entB _ hm2
      rw [same1 _ hm2, h1] at he'; cases he'
  obtain ⟨stA, hstA'⟩ := newSt_mk (d := x.id) (k := EA.kill) (wr := EA.wr) (es := EA.nw) (st := s₁'.st) (fun k hk => by
    have hr : x.id ≤ x.id + k ∧ x.id + k < x.id + EA.nw.length := ⟨by omega, by omega⟩
    obtain ⟨h1, h2, _⟩ := freeA _ hr
    obtain ⟨h3, h4⟩ := offB _ hr
    refine ⟨?_, h2⟩
    rw [hs1', ptB' _, if_neg h3, h4, h1]; rfl)
  have hfrB' := HB'.fr
  have rdB : ∀ t, t ∈ x.reads → s₁'.fr t = (s.fr t).map (PV.void EB.kill) := fun t ht => by
    rw [hfrB']
    cases hyd : y.d with
    | none => rfl
    | some d =>
      have hne : t ≠ d := by rintro rfl; exact p3 t hyd ht
      simp only [upd_ne _ _ hne]; rfl
  obtain ⟨va0, hva0, hvas, hokA⟩ := HA.vals
  obtain ⟨sA1, sA2⟩ := stripI_ids x.i GA va0
  have evA : (stripI x.i GA va0).2 = vA := by rw [hvas]
  rw [evA] at sA1 sA2
  have hva : valL s₁'.fr x.i.opr = some va0 := valL_free (fun t ht => rdB t (by simp only [Ins.reads, List.mem_append]; exact .inl ht)) hva0 (fun k hk => by rw [← sA1]; exact (hk2 k hk).1)
  obtain ⟨cA2, hca, hEa, hlA⟩ := ent_free same2 HA.ent HA.eff (fun k hk => (hk2 k hk).2.1)
  obtain ⟨s₂', hA', HA'⟩ := stepI_mk2 (s₂ := s₁') (st₂ := stA) HA (guard_void fun t w hg => rdB t (by simp only [Ins.reads, hg, List.mem_append]; right; simp))
    (by rw [hva, hva0]) hca hEa (by rw [hrmA]; exact hstA') HB'.n
  have hs2' : s₂'.st = stA := by have := HA'.st; rw [hrmA, hstA'] at this; injection this with this; exact this.symm
  have ptA' := newSt_pt hstA'
  have hfrA' := HA'.fr
  -- what they give names nothing that the other makes void
  have vvA : (if x.g = none then EA.val else PV.cnd GA EA.val).void EB.kill = (if x.g = none then EA.val else PV.cnd GA EA.val) := by
    have := void_free (ks := EB.kill) EA.val fun k hk => (hk2 k hk).2.2.1
    split
    · exact this
    · simp only [PV.void, this]
  have vvB : (if y.g = none then EB.val else PV.cnd GB EB.val).void EA.kill = (if y.g = none then EB.val else PV.cnd GB EB.val) := by
    have := void_free (ks := EA.kill) EB.val fun k hk => (hk1 k hk).2.2.1
    split
    · exact this
    · simp only [PV.void, this]
  have wvA : ∀ r e, wrLast EA.wr r = some e → e.void EB.kill = e := fun r e he => svoid_free (l := EA.wr.map (·.2)) (fun k hk => (hk2 k hk).2.2.2.1) e (wrLast_val he)
  have wvB : ∀ r e, wrLast EB.wr r = some e → e.void EA.kill = e := fun r e he => svoid_free (l := EB.wr.map (·.2)) (fun k hk => (hk1 k hk).2.2.2.1) e (wrLast_val he)
  have nvA : ∀ r : Nat, (EA.nw[r]?).map (SE.void EB.kill) = EA.nw[r]? := fun r => by
    cases h : EA.nw[r]? with
    | none => rfl
    | some e => simp only [Option.map_some, svoid_free (fun k hk => (hk2 k hk).2.2.2.2) e (List.mem_of_getElem? h)]
  have nvB : ∀ r : Nat, (EB.nw[r]?).map (SE.void EA.kill) = EB.nw[r]? := fun r => by
    cases h : EB.nw[r]? with
    | none => rfl
    | some e => simp only [Option.map_some, svoid_free (fun k hk => (hk1 k hk).2.2.2.2) e (List.mem_of_getElem? h)]
  refine ⟨s₁', s₂', hB', hA', ?_, ?_, ?_, ?_, ?_⟩
  · rw [HB.n, HA.n, HA'.n, HB'.n]
  · rw [hfrB, hfrA, hfrA', hfrB']
    have hvv : voidF EB.kill (voidF EA.kill s.fr) = voidF EA.kill (voidF EB.kill s.fr) := by
      funext t; unfold voidF; cases s.fr t with
      | none => rfl
      | some p => simp only [Option.map_some, void_comm]
    have hvu : ∀ (ks : List Nat) (f : Nat → Option PV) (d : Nat) (v : PV), voidF ks (upd f d v) = upd (voidF ks f) d (v.void ks) := fun ks f d v => by
      funext t; unfold voidF; simp only [upd_eq]; split <;> rfl
    cases hxd : x.d with
    | none =>
      cases hyd : y.d with
      | none => exact hvv
      | some e => simp only [hvu, vvB, hvv]
    | some d =>
      cases hyd : y.d with
      | none => simp only [hvu, vvA, hvv]
      | some e =>
        have hne : e ≠ d := by rintro rfl; exact p2 e hxd hyd
        simp only [hvu, vvA, vvB, hvv]
        funext t
        simp only [upd_eq]
        by_cases h1 : t = e
        · subst h1; simp [hne]
        · simp [h1]
  · funext r
    rw [hs2', ptB r, ptA' r, hs1']
    by_cases hxA : x.id ≤ r ∧ r < x.id + EA.nw.length
    · obtain ⟨h3, h4⟩ := offB r hxA
      rw [if_neg h3, if_pos hxA, h4, ptA r, if_pos hxA]
      exact nvA _
    · rw [if_neg hxA, ptA r, if_neg hxA, ptB' r]
      by_cases hxB : y.id ≤ r ∧ r < y.id + EB.nw.length
      · rw [if_pos hxB, if_pos hxB]
        have : wrLast EA.wr r = none := w1 r fun hm => by
          obtain ⟨q, hq, rfl⟩ := List.mem_map.1 hm
          obtain ⟨e, he⟩ := entA _ (tA1 q hq)
          rw [(freeB _ hxB).1] at he; cases he
        rw [this]
        exact (nvB _).symm
      · rw [if_neg hxB, if_neg hxB]
        cases ha : wrLast EA.wr r with
        | none =>
          cases hb : wrLast EB.wr r with
          | none =>
            simp only
            cases s.st r with
            | none => rfl
            | some e => simp only [Option.map_some, svoid_comm]
          | some e => simp only [Option.map_some, wvB r e hb]
        | some e =>
          have : wrLast EB.wr r = none := w2 r fun hm => by
            obtain ⟨p, hp, hpx⟩ := wrLast_mem ha
            obtain ⟨q, hq, hqx⟩ := List.mem_map.1 hm
            exact hdk p hp (by rw [hpx, ← hqx]; exact tB1 q hq)
          rw [this]
          simp only [Option.map_some, wvA r e ha]
  · rw [HB.logAt, HA.logAt, HA'.logAt, HB'.logAt, hlA, hlB]
    funext t
    simp only [upd_eq]
    by_cases h1 : t = j
    · subst h1; simp [Ne.symm hij]
    · simp [h1]
  · obtain ⟨va', a1', _, a2'⟩ := HA'.vals
    obtain ⟨vb', b1', _, b2'⟩ := HB'.vals
    rw [hva] at a1'; injection a1' with a1'; subst a1'
    rw [hvb] at b1'; injection b1' with b1'; subst b1'
    rw [hokB, hokA, a2', b2']
    constructor
    · rintro ⟨⟨h1, h2, h3⟩, h4, h5⟩; exact ⟨⟨h1, h4, h5⟩, h2, h3⟩
    · rintro ⟨⟨h1, h4, h5⟩, h2, h3⟩; exact ⟨⟨h1, h2, h3⟩, h4, h5⟩
theorem swap3 (hij : i ≠ j) (hA : stepI S true c i x s = some s₁) (hB : stepI S true c' j y s₁ = some s₂) (hap : slotsApart x y = true)
    {eA eB : LogE} (hl : s₂.log i = some eA) (hl' : s₂.log j = some eB) (hpu : eA.pu = true ∨ eB.pu = true)
    (hk1 : ∀ k ∈ eA.ks, k ∉ eB.ms) (hk2 : ∀ k ∈ eB.ks, k ∉ eA.ms) (hnj : eA.ks = [] ∨ eB.nj = true) :
    ∃ s₁' s₂', stepI S true c' j y s = some s₁' ∧ stepI S true c i x s₁' = some s₂' ∧ Sim s₂ s₂' := by
  obtain ⟨GA, vA, cA, EA, HA⟩ := stepI_parts hA
  obtain ⟨GB, vB, cB, EB, HB⟩ := stepI_parts hB
  obtain ⟨p1, p2, p3⟩ := slotsApart_spec hap
  rw [HB.logAt, upd_ne _ _ hij, HA.logAt, upd_same] at hl
  rw [HB.logAt, upd_same] at hl'
  injection hl with hl; subst hl
  injection hl' with hl'; subst hl'
  simp only [List.isEmpty_iff, List.mem_append, not_or, Bool.and_eq_true] at hpu hk1 hk2 hnj
  have hfrA := HA.fr
  have hfrB := HB.fr
  obtain ⟨stB, hstB', hcb0, hca0, hstA'⟩ : ∃ stB, newSt y.id EB.kill EB.rm EB.wr EB.nw s.st = some stB ∧ getL s.st (y.i.acc vB) = getL s₁.st (y.i.acc vB) ∧ getL stB (x.i.acc vA) = getL s.st (x.i.acc vA) ∧ newSt x.id EA.kill EA.rm EA.wr EA.nw stB = some s₂.st := by
    have hsA := HA.st
    have hsB := HB.st
    rcases hpu with ⟨q1, q2, q3, q4, q5⟩ | ⟨q1, q2, q3, q4, q5⟩
    · rw [q2, q3, q4, q5] at hsA ⊢
      have e1 : s.st = s₁.st := by simpa [newSt] using hsA
      refine ⟨s₂.st, by rw [e1]; exact hsB, by rw [e1], by rw [q1]; rfl, rfl⟩
    · rw [q2, q3, q4, q5] at hsB ⊢
      have e1 : s₁.st = s₂.st := by simpa [newSt] using hsB
      refine ⟨s.st, rfl, by rw [q1]; rfl, rfl, by rw [← e1]; exact hsA⟩
  have rdA : ∀ t, t ∈ y.reads → s₁.fr t = (s.fr t).map (PV.void EA.kill) := fun t ht => by
    rw [hfrA]
    cases hxd : x.d with
    | none => rfl
    | some d =>
      have hne : t ≠ d := by rintro rfl; exact p1 t hxd ht
      simp only [upd_ne _ _ hne]; rfl
  obtain ⟨vb0, hvb0, hvbs, hokB⟩ := HB.vals
  obtain ⟨sB1, sB2⟩ := stripI_ids y.i GB vb0
  have evB : (stripI y.i GB vb0).2 = vB := by rw [hvbs]
  rw [evB] at sB1 sB2
  have hvb : valL s.fr y.i.opr = some vb0 := valL_nj (fun t ht => rdA t (by simp only [Ins.reads, List.mem_append]; exact .inl ht)) hvb0 (hnj.imp id fun h => by rw [← sB2]; exact h.1)
  obtain ⟨s₁', hB', HB'⟩ := stepI_mk (s₂ := s) (st₂ := stB) HB (guard_void fun t w hg => rdA t (by simp only [Ins.reads, hg, List.mem_append]; right; simp)).symm
    (by rw [hvb, hvb0]) hcb0 hstB' HA.n.symm
  have hs1' : s₁'.st = stB := by have := HB'.st; rw [hstB'] at this; injection this with this; exact this.symm
  have hfrB' := HB'.fr
  have rdB : ∀ t, t ∈ x.reads → s₁'.fr t = (s.fr t).map (PV.void EB.kill) := fun t ht => by
    rw [hfrB']
    cases hyd : y.d with
    | none => rfl
    | some d =>
      have hne : t ≠ d := by rintro rfl; exact p3 t hyd ht
      simp only [upd_ne _ _ hne]; rfl
  obtain ⟨va0, hva0, hvas, hokA⟩ := HA.vals
  obtain ⟨sA1, sA2⟩ := stripI_ids x.i GA va0
  have evA : (stripI x.i GA va0).2 = vA := by rw [hvas]
  rw [evA] at sA1 sA2
  have hva : valL s₁'.fr x.i.opr = some va0 := valL_free (fun t ht => rdB t (by simp only [Ins.reads, List.mem_append]; exact .inl ht)) hva0 (fun k hk => by rw [← sA1]; exact (hk2 k hk).1)
  obtain ⟨s₂', hA', HA'⟩ := stepI_mk (s₂ := s₁') (st₂ := s₂.st) HA (guard_void fun t w hg => rdB t (by simp only [Ins.reads, hg, List.mem_append]; right; simp))
    (by rw [hva, hva0]) (by rw [hs1']; exact hca0) (by rw [hs1']; exact hstA') HB'.n
  have hs2' : s₂'.st = s₂.st := by have := HA'.st; rw [hs1', hstA'] at this; injection this with this; exact this.symm
  have hfrA' := HA'.fr
  -- what they give names nothing that the other makes void
  have vvA : (if x.g = none then EA.val else PV.cnd GA EA.val).void EB.kill = (if x.g = none then EA.val else PV.cnd GA EA.val) := by
    have := void_free (ks := EB.kill) EA.val fun k hk => (hk2 k hk).2.2.1
    split
    · exact this
    · simp only [PV.void, this]
  have vvB : (if y.g = none then EB.val else PV.cnd GB EB.val).void EA.kill = (if y.g = none then EB.val else PV.cnd GB EB.val) := by
    have := void_free (ks := EA.kill) EB.val fun k hk => (hk1 k hk).2.2.1
    split
    · exact this
    · simp only [PV.void, this]
  refine ⟨s₁', s₂', hB', hA', ?_, ?_, ?_, ?_, ?_⟩
  · rw [HB.n, HA.n, HA'.n, HB'.n]
  · rw [hfrB, hfrA, hfrA', hfrB']
    have hvv : voidF EB.kill (voidF EA.kill s.fr) = voidF EA.kill (voidF EB.kill s.fr) := by
      funext t; unfold voidF; cases s.fr t with
      | none => rfl
      | some p => simp only [Option.map_some, void_comm]
    have hvu : ∀ (ks : List Nat) (f : Nat → Option PV) (d : Nat) (v : PV), voidF ks (upd f d v) = upd (voidF ks f) d (v.void ks) := fun ks f d v => by
      funext t; unfold voidF; simp only [upd_eq]; split <;> rfl
    cases hxd : x.d with
    | none =>
      cases hyd : y.d with
      | none => exact hvv
      | some e => simp only [hvu, vvB, hvv]
    | some d =>
      cases hyd : y.d with
      | none => simp only [hvu, vvA, hvv]
      | some e =>
        have hne : e ≠ d := by rintro rfl; exact p2 e hxd hyd
        simp only [hvu, vvA, vvB, hvv]
        funext t
        simp only [upd_eq]
        by_cases h1 : t = e
        · subst h1; simp [hne]
        · simp [h1]
  · exact hs2'.symm
  · rw [HB.logAt, HA.logAt, HA'.logAt, HB'.logAt]
    funext t
    simp only [upd_eq]
    by_cases h1 : t = j
    · subst h1; simp [Ne.symm hij]
    · simp [h1]
  · obtain ⟨va', a1', _, a2'⟩ := HA'.vals
    obtain ⟨vb', b1', _, b2'⟩ := HB'.vals
    rw [hva] at a1'; injection a1' with a1'; subst a1'
    rw [hvb] at b1'; injection b1' with b1'; subst b1'
    rw [hokB, hokA, a2', b2']
    constructor
    · rintro ⟨⟨h1, h2, h3⟩, h4, h5⟩; exact ⟨⟨h1, h4, h5⟩, h2, h3⟩
    · rintro ⟨⟨h1, h4, h5⟩, h2, h3⟩; exact ⟨⟨h1, h2, h3⟩, h4, h5⟩
theorem swap4 (hij : i ≠ j) (hA : stepI S true c i x s = some s₁) (hB : stepI S true c' j y s₁ = some s₂) (hap : slotsApart x y = true)
    {eA eB : LogE} (hl : s₂.log i = some eA) (hl' : s₂.log j = some eB) (hpu : eA.rd = true) (hd1 : ∀ r ∈ eB.ws, r ∉ eA.ids) (hd2 : ∀ r ∈ eB.rl, r ∉ eA.ids)
    (hk1 : ∀ k ∈ eA.ks, k ∉ eB.ms) (hk2 : ∀ k ∈ eB.ks, k ∉ eA.ms) (hnj : eA.ks = [] ∨ eB.nj = true) :
    ∃ s₁' s₂', stepI S true c' j y s = some s₁' ∧ stepI S true c i x s₁' = some s₂' ∧ Sim s₂ s₂' := by
  obtain ⟨GA, vA, cA, EA, HA⟩ := stepI_parts hA
  obtain ⟨GB, vB, cB, EB, HB⟩ := stepI_parts hB
  obtain ⟨p1, p2, p3⟩ := slotsApart_spec hap
  rw [HB.logAt, upd_ne _ _ hij, HA.logAt, upd_same] at hl
  rw [HB.logAt, upd_same] at hl'
  injection hl with hl; subst hl
  injection hl' with hl'; subst hl'
  simp only [List.isEmpty_iff, List.mem_append, not_or, Bool.and_eq_true] at hpu hk1 hk2 hnj hd1 hd2
  have hfrA := HA.fr
  have hfrB := HB.fr
  have hsA := HA.st
  have hsB := HB.st
  obtain ⟨q2, q3, q4, q5⟩ := hpu
  rw [q2, q3, q4, q5] at hsA
  have e1 : s.st = s₁.st := by simpa [newSt] using hsA
  have hpt : ∀ r ∈ x.i.acc vA, s₂.st r = (s.st r).map (SE.void EB.kill) := fun r hr => by
    obtain ⟨e, he, _⟩ := getL_mem _ _ HA.ent r hr
    have hr1 : r ∉ EB.wr.map (·.1) := fun hm => hd1 r hm hr
    have hr2 : r ∉ EB.rm := fun hm => hd2 r hm hr
    have hw : wrLast EB.wr r = none := by
      cases h : wrLast EB.wr r with
      | none => rfl
      | some e => obtain ⟨p, hp, hx⟩ := wrLast_mem h; exact absurd (List.mem_map.2 ⟨p, hp, hx⟩) hr1
    have hv : wrS EB.wr (rmS EB.rm (voidS EB.kill s₁.st)) r = (s.st r).map (SE.void EB.kill) := by
      rw [wrS_pt, hw, ← e1]; simp only [rmS, if_neg hr2]; rfl
    rw [newSt_eq] at hsB
    rw [nwS_pt hsB r]
    by_cases hx : y.id ≤ r ∧ r < y.id + EB.nw.length
    · have := nwS_free hsB r hx
      rw [hv, he] at this; cases this
    · rw [if_neg hx]; exact hv
  have rdA : ∀ t, t ∈ y.reads → s₁.fr t = (s.fr t).map (PV.void EA.kill) := fun t ht => by
    rw [hfrA]
    cases hxd : x.d with
    | none => rfl
    | some d =>
      have hne : t ≠ d := by rintro rfl; exact p1 t hxd ht
      simp only [upd_ne _ _ hne]; rfl
  obtain ⟨vb0, hvb0, hvbs, hokB⟩ := HB.vals
  obtain ⟨sB1, sB2⟩ := stripI_ids y.i GB vb0
  have evB : (stripI y.i GB vb0).2 = vB := by rw [hvbs]
  rw [evB] at sB1 sB2
  have hvb : valL s.fr y.i.opr = some vb0 := valL_nj (fun t ht => rdA t (by simp only [Ins.reads, List.mem_append]; exact .inl ht)) hvb0 (hnj.imp id fun h => by rw [← sB2]; exact h.1)
  obtain ⟨s₁', hB', HB'⟩ := stepI_mk (s₂ := s) (st₂ := s₂.st) HB (guard_void fun t w hg => rdA t (by simp only [Ins.reads, hg, List.mem_append]; right; simp)).symm
    (by rw [hvb, hvb0]) (by rw [e1]) (by rw [e1]; exact hsB) HA.n.symm
  have hs1' : s₁'.st = s₂.st := by have := HB'.st; rw [e1, hsB] at this; injection this with this; exact this.symm
  have hfrB' := HB'.fr
  have rdB : ∀ t, t ∈ x.reads → s₁'.fr t = (s.fr t).map (PV.void EB.kill) := fun t ht => by
    rw [hfrB']
    cases hyd : y.d with
    | none => rfl
    | some d =>
      have hne : t ≠ d := by rintro rfl; exact p3 t hyd ht
      simp only [upd_ne _ _ hne]; rfl
  obtain ⟨va0, hva0, hvas, hokA⟩ := HA.vals
  obtain ⟨sA1, sA2⟩ := stripI_ids x.i GA va0
  have evA : (stripI x.i GA va0).2 = vA := by rw [hvas]
  rw [evA] at sA1 sA2
  have hva : valL s₁'.fr x.i.opr = some va0 := valL_free (fun t ht => rdB t (by simp only [Ins.reads, List.mem_append]; exact .inl ht)) hva0 (fun k hk => by rw [← sA1]; exact (hk2 k hk).1)
  obtain ⟨cA2, hca, hEa, hlA⟩ := ent_free (st' := s₁'.st) (fun r hr => by rw [hs1']; exact hpt r hr) HA.ent HA.eff (fun k hk => (hk2 k hk).2.1)
  obtain ⟨s₂', hA', HA'⟩ := stepI_mk2 (s₂ := s₁') (st₂ := s₂.st) HA (guard_void fun t w hg => rdB t (by simp only [Ins.reads, hg, List.mem_append]; right; simp))
    (by rw [hva, hva0]) hca hEa (by rw [hs1', q2, q3, q4, q5]; simp [newSt]) HB'.n
  have hs2' : s₂'.st = s₂.st := by have := HA'.st; rw [hs1', q2, q3, q4, q5] at this; simpa [newSt] using this.symm
  have hfrA' := HA'.fr
  -- what they give names nothing that the other makes void
  have vvA : (if x.g = none then EA.val else PV.cnd GA EA.val).void EB.kill = (if x.g = none then EA.val else PV.cnd GA EA.val) := by
    have := void_free (ks := EB.kill) EA.val fun k hk => (hk2 k hk).2.2.1
    split
    · exact this
    · simp only [PV.void, this]
  have vvB : (if y.g = none then EB.val else PV.cnd GB EB.val).void EA.kill = (if y.g = none then EB.val else PV.cnd GB EB.val) := by
    have := void_free (ks := EA.kill) EB.val fun k hk => (hk1 k hk).2.2.1
    split
    · exact this
    · simp only [PV.void, this]
  refine ⟨s₁', s₂', hB', hA', ?_, ?_, ?_, ?_, ?_⟩
  · rw [HB.n, HA.n, HA'.n, HB'.n]
  · rw [hfrB, hfrA, hfrA', hfrB']
    have hvv : voidF EB.kill (voidF EA.kill s.fr) = voidF EA.kill (voidF EB.kill s.fr) := by
      funext t; unfold voidF; cases s.fr t with
      | none => rfl
      | some p => simp only [Option.map_some, void_comm]
    have hvu : ∀ (ks : List Nat) (f : Nat → Option PV) (d : Nat) (v : PV), voidF ks (upd f d v) = upd (voidF ks f) d (v.void ks) := fun ks f d v => by
      funext t; unfold voidF; simp only [upd_eq]; split <;> rfl
    cases hxd : x.d with
    | none =>
      cases hyd : y.d with
      | none => exact hvv
      | some e => simp only [hvu, vvB, hvv]
    | some d =>
      cases hyd : y.d with
      | none => simp only [hvu, vvA, hvv]
      | some e =>
        have hne : e ≠ d := by rintro rfl; exact p2 e hxd hyd
        simp only [hvu, vvA, vvB, hvv]
        funext t
        simp only [upd_eq]
        by_cases h1 : t = e
        · subst h1; simp [hne]
        · simp [h1]
  · exact hs2'.symm
  · rw [HB.logAt, HA.logAt, HA'.logAt, HB'.logAt, hlA]
    funext t
    simp only [upd_eq]
    by_cases h1 : t = j
    · subst h1; simp [Ne.symm hij]
    · simp [h1]
  · obtain ⟨va', a1', _, a2'⟩ := HA'.vals
    obtain ⟨vb', b1', _, b2'⟩ := HB'.vals
    rw [hva] at a1'; injection a1' with a1'; subst a1'
    rw [hvb] at b1'; injection b1' with b1'; subst b1'
    rw [hokB, hokA, a2', b2']
    constructor
    · rintro ⟨⟨h1, h2, h3⟩, h4, h5⟩; exact ⟨⟨h1, h4, h5⟩, h2, h3⟩
    · rintro ⟨⟨h1, h4, h5⟩, h2, h3⟩; exact ⟨⟨h1, h2, h3⟩, h4, h5⟩
end
end Pv
end Go.Proofs.YtafnkpmoolbjjaaDoor
/- WHAT HAS TO BE SHOWN OF COMPACT CODE: by evaluation; loops are left standing. Definitions and their equations. -/
set_option linter.unusedSimpArgs false
set_option linter.unusedVariables false
namespace Go.Proofs.YtafnkpmoolbjjaaDoor
namespace Pv
inductive Lv where
  | nrm
  | ex (id : Nat)
  | ret
def disjointL (a b : List Nat) : Bool := a.all fun x => !b.contains x
def killOk (x y : LogE) : Bool := match x.ks, y.ks with
  | [], [] => true
  | kx, ky => disjointL kx y.ms && (disjointL ky x.ms && (kx.isEmpty || y.nj))
def apartOk (log : Nat → Option LogE) : List (Nat × Nat × Nat) → Bool
  | [] => true
  | (a, b, d) :: r => (match log a, log b with
    | some x, some y => (x.pu || y.pu || (!x.rm && !y.rm && (disjointL x.ws y.ids && disjointL y.ws x.ids) && y.ids.all (fun i => !(i / 16 == d))) || (x.rd && (disjointL y.ws x.ids && disjointL y.rl x.ids))) && killOk x y
    | _, _ => false) && apartOk log r
def PS.reset (s : PS) : PS := ⟨s.n, s.fr, s.st, True, fun _ => none⟩
def vc (S : FuncId → List PV → List SE → CallRes → Prop) (LS : C → (Lv → PS → Prop) → PS → Prop) : C → (Lv → PS → Prop) → PS → Prop
  | .skip, Q, s => Q .nrm s
  | .reg ins, Q, s => evK S false 0 ins s (fun s' => Q .nrm s')
  | .drw ins ps, Q, s => match s with
    | ⟨n, fr, st, ok, _⟩ => evK S true 0 ins ⟨n, fr, st, ok, fun _ => none⟩ (fun s' => match s' with
      | ⟨n', fr', st', ok', log'⟩ => apartOk log' ps = true ∧ Q .nrm ⟨n', fr', st', ok', fun _ => none⟩)
  | .seq a b, Q, s => vc S LS a (fun e s' => match e with
    | .nrm => vc S LS b Q s'
    | .ex i => Q (.ex i) s'
    | .ret => Q .ret s') s
  | .cond c x y, Q, s => match s with
    | ⟨n, fr, st, ok, log⟩ => match A.val fr c with
      | some (.bool b) => ok ∧ (b = true → vc S LS x Q ⟨n, fr, st, True, log⟩) ∧ (b = false → vc S LS y Q ⟨n, fr, st, True, log⟩)
      | _ => False
  | .block id b, Q, s => vc S LS b (fun e s' => match e with
    | .nrm => Q .nrm s'
    | .ex i => match Nat.beq i id with
      | true => Q .nrm s'
      | false => Q (.ex i) s'
    | .ret => Q .ret s') s
  | .loop b, Q, s => match s with
    | ⟨n, fr, st, ok, log⟩ => ok ∧ LS (.loop b) Q ⟨n, fr, st, True, log⟩
  | .exit id, Q, s => Q (.ex id) s
  | .scope b, Q, s => vc S LS b Q s
  | .ret, Q, s => Q .ret s
  | .cut b, Q, s => match s with
    | ⟨n, fr, st, ok, log⟩ => ok ∧ LS b Q ⟨n, fr, st, True, log⟩
  | .bad, _, _ => False
def C.er : C → C
  | .seq a b => .seq a.er b.er
  | .cond c x y => .cond c x.er y.er
  | .block id b => .block id b.er
  | .loop b => .loop b.er
  | .scope b => .scope b.er
  | .cut b => b.er
  | c => c
end Pv
end Go.Proofs.YtafnkpmoolbjjaaDoor
/- REGIONS IN WHATEVER ORDER. -/
set_option linter.unusedSimpArgs false
set_option linter.unusedVariables false
namespace Go.Proofs.YtafnkpmoolbjjaaDoor
namespace Pv
open Go.RowKit
/-! ### what comes before what -/
def befG (acc : Array Nat) (o : Oper) : Nat := o.after.foldl (fun s e => if Region.binds .any e then s ||| 2 ^ e.on ||| acc.getD e.on 0 else s) 0
theorem befold_bit (acc : Array Nat) (i : Nat) : ∀ (l : List Edge) (s0 : Nat), (l.foldl (fun s e => if Region.binds .any e then s ||| 2 ^ e.on ||| acc.getD e.on 0 else s) s0).testBit i = true →
    s0.testBit i = true ∨ ∃ e ∈ l, Region.binds .any e = true ∧ (i = e.on ∨ (acc.getD e.on 0).testBit i = true)
  | [], s0, h => .inl h
  | e :: l, s0, h => by
    simp only [List.foldl_cons] at h
    rcases befold_bit acc i l _ h with h1 | ⟨e', he', h2, h3⟩
    · split at h1
      · rename_i hb
        rw [Nat.testBit_or, Nat.testBit_or, Nat.testBit_two_pow] at h1
        simp only [Bool.or_eq_true, decide_eq_true_eq] at h1
        rcases h1 with (h1 | h1) | h1
        · exact .inl h1
        · exact .inr ⟨e, by simp, hb, .inl h1.symm⟩
        · exact .inr ⟨e, by simp, hb, .inr h1⟩
      · exact .inl h1
    · exact .inr ⟨e', by simp [he'], h2, h3⟩
theorem pushes_old (g : Array Nat → Oper → Nat) : ∀ (l : List Oper) (acc : Array Nat) (k : Nat), k < acc.size → (l.foldl (fun acc o => acc.push (g acc o)) acc).getD k 0 = acc.getD k 0
  | [], acc, k, h => rfl
  | o :: l, acc, k, h => by
    simp only [List.foldl_cons]
    rw [pushes_old g l _ k (by simp; omega)]
    simp [Array.getD_eq_getD_getElem?, Array.getElem?_push, h, Nat.ne_of_lt h]
theorem pushes_size (g : Array Nat → Oper → Nat) : ∀ (l : List Oper) (acc : Array Nat), (l.foldl (fun acc o => acc.push (g acc o)) acc).size = acc.size + l.length
  | [], acc => rfl
  | o :: l, acc => by simp only [List.foldl_cons]; rw [pushes_size g l]; simp; omega
theorem pushes_at (g : Array Nat → Oper → Nat) : ∀ (l : List Oper) (acc : Array Nat) (t : Nat) (o : Oper), l[t]? = some o →
    (l.foldl (fun acc o => acc.push (g acc o)) acc).getD (acc.size + t) 0 = g ((l.take t).foldl (fun acc o => acc.push (g acc o)) acc) o
  | [], acc, t, o, h => by simp at h
  | o' :: l, acc, 0, o, h => by
    simp only [List.getElem?_cons_zero, Option.some.injEq] at h; subst h
    simp only [List.foldl_cons, List.take_zero, List.foldl_nil, Nat.add_zero]
    rw [pushes_old g l _ _ (by simp)]
    simp [Array.getD_eq_getD_getElem?]
  | o' :: l, acc, t + 1, o, h => by
    simp only [List.foldl_cons, List.take_succ_cons]
    have := pushes_at g l (acc.push (g acc o')) t o (by simpa using h)
    rw [← this]; congr 1; simp; omega
theorem before_bit {ops : Array Oper} {i j : Nat} {o : Oper} (hj : ops[j]? = some o) (hed : ∀ e ∈ o.after, Region.binds .any e = true → e.on < j) (h : bit (Region.before ops) i j = true) :
    ∃ e ∈ o.after, Region.binds .any e = true ∧ (i = e.on ∨ bit (Region.before ops) i e.on = true) := by
  have hfold : Region.before ops = ops.toList.foldl (fun acc o => acc.push (befG acc o)) #[] := by
    unfold Region.before befG
    rw [← Array.foldl_toList]
  have hjl : ops.toList[j]? = some o := by simpa using hj
  have hlt : j < ops.toList.length := (List.getElem?_eq_some_iff.1 hjl).1
  have h1 := pushes_at befG ops.toList #[] j o hjl
  simp only [List.size_toArray, List.length_nil, Nat.zero_add] at h1
  unfold bit at h ⊢
  rw [hfold, h1] at h
  unfold befG at h
  rw [← Array.foldl_toList] at h
  rcases befold_bit _ i _ _ h with h2 | ⟨e, he, hb, h3⟩
  · simp at h2
  · refine ⟨e, by simpa using he, hb, h3.imp (fun h => h) fun h3 => ?_⟩
    have hon := hed e (by simpa using he) hb
    have hsz := pushes_size befG (ops.toList.take j) #[]
    have hold := pushes_old befG (ops.toList.drop j) ((ops.toList.take j).foldl (fun acc o => acc.push (befG acc o)) #[]) e.on (by rw [hsz, List.length_take]; simp only [List.size_toArray, List.length_nil]; omega)
    rw [← List.foldl_append, List.take_append_drop] at hold
    rw [hfold, hold]
    exact h3
/-! ### the pairs -/
theorem mapO_mem {α β : Type} {f : α → Option β} : ∀ {l : List α} {r : List β}, mapO f l = some r → ∀ a ∈ l, ∃ b ∈ r, f a = some b
  | [], r, h, a, ha => by simp at ha
  | x :: l, r, h, a, ha => by
    simp only [mapO] at h
    split at h
    · rename_i b bs hb hbs
      injection h with h; subst h
      rcases List.mem_cons.1 ha with rfl | ha
      · exact ⟨b, by simp, hb⟩
      · obtain ⟨b', hb', he⟩ := mapO_mem hbs a ha
        exact ⟨b', by simp [hb'], he⟩
    · cases h
theorem pairs_mem {b : Array Nat} {ins : List Ins} {ps : List (Nat × Nat × Nat)} (h : pairs b ins = some ps) {i j : Nat} {x y : Ins} (hi : ins[i]? = some x) (hj : ins[j]? = some y) (hij : i < j) (hb : bit b i j = false) :
    slotsApart x y = true ∧ (i, j, x.d.getD 0) ∈ ps := by
  unfold pairs at h
  have hx : (x, i) ∈ ins.zipIdx := List.mk_mem_zipIdx_iff_getElem?.2 hi
  have hy : (y, j) ∈ ins.zipIdx := List.mk_mem_zipIdx_iff_getElem?.2 hj
  obtain ⟨q, hq, he⟩ := mapO_mem h ((x, i), (y, j)) (List.mem_filter.2 ⟨List.mem_flatMap.2 ⟨(x, i), hx, List.mem_map.2 ⟨(y, j), hy, rfl⟩⟩, by simp [hij, hb]⟩)
  simp only at he
  split at he
  · rename_i hs
    injection he with he; subst he
    exact ⟨hs, hq⟩
  · cases he
def LApart (a b : LogE) (d : Nat) : Prop := ((a.pu = true ∨ b.pu = true) ∨ (a.rm = false ∧ b.rm = false ∧ ((∀ r ∈ a.ws, r ∉ b.ids) ∧ ∀ r ∈ b.ws, r ∉ a.ids) ∧ (∀ r ∈ b.ids, r / 16 ≠ d)) ∨ (a.rd = true ∧ (∀ r ∈ b.ws, r ∉ a.ids) ∧ ∀ r ∈ b.rl, r ∉ a.ids)) ∧
  (∀ k ∈ a.ks, k ∉ b.ms) ∧ (∀ k ∈ b.ks, k ∉ a.ms) ∧ (a.ks = [] ∨ b.nj = true)
theorem disjointL_mem {a b : List Nat} (h : disjointL a b = true) : ∀ k ∈ a, k ∉ b := fun k hk hb => by
  unfold disjointL at h
  have := List.all_eq_true.1 h k hk
  simp at this
  exact this hb
theorem killOk_spec {a b : LogE} (h : killOk a b = true) : (∀ k ∈ a.ks, k ∉ b.ms) ∧ (∀ k ∈ b.ks, k ∉ a.ms) ∧ (a.ks = [] ∨ b.nj = true) := by
  unfold killOk at h
  split at h
  · rename_i h1 h2
    rw [h1, h2]
    exact ⟨fun k hk => (by cases hk), fun k hk => (by cases hk), .inl rfl⟩
  · simp only [Bool.and_eq_true, Bool.or_eq_true, List.isEmpty_iff] at h
    exact ⟨disjointL_mem h.1, disjointL_mem h.2.1, h.2.2⟩
theorem apartOk_mem {log : Nat → Option LogE} : ∀ {ps : List (Nat × Nat × Nat)}, apartOk log ps = true → ∀ i j d, (i, j, d) ∈ ps →
    ∃ a b, log i = some a ∧ log j = some b ∧ LApart a b d
  | [], h, i, j, d, hm => by simp at hm
  | (a, b, e) :: ps, h, i, j, d, hm => by
    simp only [apartOk, Bool.and_eq_true] at h
    obtain ⟨h1, h2⟩ := h
    rcases List.mem_cons.1 hm with hm | hm
    · simp only [Prod.mk.injEq] at hm
      obtain ⟨rfl, rfl, rfl⟩ := hm
      split at h1
      · rename_i x y hx hy
        simp only [Bool.and_eq_true, Bool.not_eq_true', List.all_eq_true, beq_eq_false_iff_ne, Bool.or_eq_true] at h1
        obtain ⟨hpp, h5⟩ := h1
        rcases hpp with (hpp | ⟨⟨⟨k1, k2⟩, h3⟩, h4⟩) | ⟨k1, k2, k3⟩
        · exact ⟨x, y, hx, hy, .inl hpp, killOk_spec h5⟩
        rotate_left
        · exact ⟨x, y, hx, hy, .inr (.inr ⟨k1, disjointL_mem k2, disjointL_mem k3⟩), killOk_spec h5⟩
        refine ⟨x, y, hx, hy, .inr (.inl ⟨k1, k2, ⟨disjointL_mem h3.1, disjointL_mem h3.2⟩, fun r hr => ?_⟩), killOk_spec h5⟩
        simpa using h4 r hr
      · cases h1
    · exact apartOk_mem h2 i j d hm
section
variable {S : FuncId → List PV → List SE → CallRes → Prop} {cr : Nat → CallRes} {s s' s₁ s₂ : PS}
theorem evL_log : ∀ {l : List (Nat × Ins)} {s s' : PS} {k : Nat}, evL S true cr l s = some s' → k ∉ l.map (·.1) → s'.log k = s.log k
  | [], s, s', k, h, hk => by simp only [evL, Option.some.injEq] at h; subst h; rfl
  | (i, x) :: r, s, s', k, h, hk => by
    simp only [evL, stepX] at h
    split at h
    · rename_i s1 h1
      obtain ⟨G, vs, cs, E, H⟩ := stepI_parts h1
      simp only [List.map_cons, List.mem_cons, not_or] at hk
      rw [evL_log h hk.2, H.logAt, upd_ne _ _ hk.1]
    · cases h
def Apart (log : Nat → Option LogE) (p q : Nat × Ins) : Prop := p.1 ≠ q.1 ∧ p.2.id = 16 * p.2.d.getD 0 ∧ slotsApart p.2 q.2 = true ∧
  ∃ a b, log p.1 = some a ∧ log q.1 = some b ∧ LApart a b (p.2.d.getD 0)
theorem bubble : ∀ {l : List (Nat × Ins)} {q : Nat × Ins} {m : List (Nat × Ins)} {s s' : PS}, evL S true cr (l ++ q :: m) s = some s' → ((l ++ q :: m).map (·.1)).Nodup → (∀ p ∈ l, Apart s'.log p q) →
    ∃ s'', evL S true cr (q :: (l ++ m)) s = some s'' ∧ Sim s' s''
  | [], q, m, s, s', h, hn, hA => ⟨s', h, Sim.refl _⟩
  | (k, z) :: l, (i, x), m, s, s', h, hn, hA => by
    simp only [List.cons_append, evL, stepX] at h
    split at h
    · rename_i s1 h1
      simp only [List.cons_append, List.map_cons, List.nodup_cons] at hn
      obtain ⟨s'', h2, hS⟩ := bubble h hn.2 (fun p hp => hA p (by simp [hp]))
      simp only [evL, stepX] at h2
      split at h2
      · rename_i s2 h3
        obtain ⟨a1, a2, a3, eA, eB, a4, a5, cc, c5, c6, c7⟩ := hA (k, z) (by simp)
        simp only at a1 a2 a3 a4 a5 cc
        rw [hS.log] at a4 a5
        have nn := hn.1
        have ni : i ∉ (l ++ m).map (·.1) := by
          have := hn.2
          simp only [List.map_append, List.map_cons] at this ⊢
          rw [List.nodup_append] at this
          obtain ⟨_, h5, h6⟩ := this
          simp only [List.nodup_cons] at h5
          simp only [List.mem_append, not_or]
          refine ⟨fun hm => h6 i hm i (by simp) rfl, h5.1⟩
        have nk : k ∉ (l ++ m).map (·.1) := by
          simp only [List.map_append, List.map_cons, List.mem_append, List.mem_cons, not_or] at nn ⊢
          exact ⟨nn.1, nn.2.2⟩
        rw [evL_log h2 nk] at a4
        rw [evL_log h2 ni] at a5
        have hsw : ∃ s₁' s₂', stepI S true (cr i) i x s = some s₁' ∧ stepI S true (cr k) k z s₁' = some s₂' ∧ Sim s2 s₂' := by
          rcases cc with hpu | ⟨c1, c2, c3, c4⟩ | ⟨c1, c2, c3⟩
          rotate_right
          · exact swap4 a1 h1 h3 a3 a4 a5 c1 c2 c3 c5 c6 c7
          · exact swap3 a1 h1 h3 a3 a4 a5 hpu c5 c6 c7
          · exact swap2 a1 h1 h3 a2 a3 a4 a5 c1 c2 c3.1 c3.2 c4 c5 c6 c7
        obtain ⟨s1', s2', b1, b2, b3⟩ := hsw
        obtain ⟨s3, d1, d2⟩ := evL_sim b3 h2
        refine ⟨s3, ?_, hS.trans d2⟩
        simp only [List.cons_append, evL, stepX, b1, b2]
        exact d1
      · cases h2
    · cases h
end
section
variable {P : Program} {X : Cx} {w0 : World} {may : Nat → Prop} {ops : Array Oper} {Q : Exit → Act → World → Prop}
structure Left (ops : Array Oper) (listed : Array Bool) (l : List (Nat × Ins)) : Prop where
  size : listed.size = ops.size
  mem : ∀ k, k ∈ l.map (·.1) ↔ (k < ops.size ∧ listed.getD k true = false)
  sorted : (l.map (·.1)).Pairwise (· < ·)
  down : ∀ k, k < ops.size → k ∉ l.map (·.1) → ∀ j, bit (Region.before ops) j k = true → j ∉ l.map (·.1)
theorem any_sound {wr : Bool} {cr : Nat → CallRes} {ins : List Ins} {ps : List (Nat × Nat × Nat)} (hcomp : ∀ (k : Nat) (o : Oper), ops[k]? = some o → ∃ x, ins[k]? = some x ∧ compO P wr ops o = some x)
    (hps : pairs (Region.before ops) ins = some ps) (hed : ∀ (k : Nat) (o : Oper), ops[k]? = some o → ∀ e ∈ o.after, Region.binds .any e = true → e.on < k) :
    ∀ (fuel : Nat) (l : List (Nat × Ins)) (listed : Array Bool) (a : Act) (w : World) (s s' : PS) (γ : Gh), l.length ≤ fuel → Left ops listed l → (∀ p ∈ l, ins[p.1]? = some p.2) →
    Rel X w0 may a w s γ → evL (PureCall P) true cr l s = some s' → s'.ok → apartOk s'.log ps = true →
    (∀ a' w' s'' γ', Sim s' s'' → Rel X w0 may a' w' s'' γ' → Q .normal a' w') → wpAny P .any ops Q fuel listed a w := by
  have first : ∀ {l : List (Nat × Ins)} {listed : Array Bool}, Left ops listed l → Region.ready .any ops listed = [] → l = [] := by
    intro l listed hL hr
    cases l with
    | nil => rfl
    | cons p l =>
      exfalso
      have hm := (hL.mem p.1).1 (by simp)
      have : p.1 ∈ Region.ready .any ops listed := by
        refine mem_ready.2 ⟨hm.2, ops[p.1], Array.getElem?_eq_getElem hm.1, fun e he hb => ?_⟩
        have hlt := hed p.1 _ (Array.getElem?_eq_getElem hm.1) e he hb
        have hni : e.on ∉ (p :: l).map (·.1) := fun hme => by
          simp only [List.map_cons, List.mem_cons] at hme
          rcases hme with hme | hme
          · omega
          · have := hL.sorted
            simp only [List.map_cons, List.pairwise_cons] at this
            have := this.1 _ hme
            omega
        have hlt2 : e.on < listed.size := by rw [hL.size]; omega
        have := mt (hL.mem e.on).2 hni
        simp only [Array.getD_eq_getD_getElem?, hlt2, Array.getElem?_eq_getElem, Option.getD_some] at this ⊢
        cases hh : listed[e.on] with
        | true => rfl
        | false => exact absurd ⟨by omega, hh⟩ this
      rw [hr] at this; simp at this
  intro fuel
  induction fuel with
  | zero =>
    intro l listed a w s s' γ hle hL hin hR hev hok hap hK
    have : l = [] := List.eq_nil_of_length_eq_zero (Nat.le_zero.1 hle)
    subst this
    simp only [evL, Option.some.injEq] at hev; subst hev
    refine ⟨?_, hK _ _ _ _ (Sim.refl _) hR⟩
    cases hr : Region.ready .any ops listed with
    | nil => rfl
    | cons j _ =>
      exfalso
      have hj : j ∈ Region.ready .any ops listed := by rw [hr]; simp
      obtain ⟨h1, o, h2, _⟩ := mem_ready.1 hj
      have := (hL.mem j).2 ⟨(Array.getElem?_eq_some_iff.1 h2).1, h1⟩
      simp at this
  | succ fuel ih =>
    intro l listed a w s s' γ hle hL hin hR hev hok hap hK
    refine ⟨fun hr => ?_, fun i hi => ?_⟩
    · have := first hL hr
      subst this
      simp only [evL, Option.some.injEq] at hev; subst hev
      exact hK _ _ _ _ (Sim.refl _) hR
    · obtain ⟨h1, o, h2, h3⟩ := mem_ready.1 hi
      have hisz := (Array.getElem?_eq_some_iff.1 h2).1
      have hil := (hL.mem i).2 ⟨hisz, h1⟩
      obtain ⟨⟨i', x⟩, hq, hqi⟩ := List.mem_map.1 hil
      simp only at hqi; subst hqi
      obtain ⟨l1, l2, rfl⟩ := List.append_of_mem hq
      have hnd : ((l1 ++ (i', x) :: l2).map (·.1)).Nodup := hL.sorted.imp Nat.ne_of_lt
      have hx := hin (i', x) (by simp)
      simp only at hx
      obtain ⟨x', hx', hco⟩ := hcomp i' o h2
      rw [hx] at hx'; injection hx' with hx'; subst hx'
      have hsub : ∀ k, k ∈ (l1 ++ l2).map (·.1) ↔ k ∈ (l1 ++ (i', x) :: l2).map (·.1) ∧ k ≠ i' := fun k => by
        have := hnd
        simp only [List.map_append, List.map_cons] at this
        rw [List.nodup_append] at this
        obtain ⟨_, g5, g6⟩ := this
        simp only [List.nodup_cons] at g5
        simp only [List.map_append, List.map_cons, List.mem_append, List.mem_cons]
        constructor
        · rintro (h | h)
          · exact ⟨.inl h, fun e => g6 k h i' (by simp) e⟩
          · exact ⟨.inr (.inr h), fun e => g5.1 (e ▸ h)⟩
        · rintro ⟨h | h | h, hne⟩
          · exact .inl h
          · exact absurd h hne
          · exact .inr h
      have hbef : ∀ k, k ∈ (l1 ++ (i', x) :: l2).map (·.1) → bit (Region.before ops) k i' = false := fun k hk => by
        cases hb : bit (Region.before ops) k i' with
        | false => rfl
        | true =>
          exfalso
          obtain ⟨e, he, heb, hor⟩ := before_bit h2 (hed i' o h2) hb
          have hlt := hed i' o h2 e he heb
          have hlist := h3 e he heb
          have hnot : e.on ∉ (l1 ++ (i', x) :: l2).map (·.1) := fun hm => by
            have := ((hL.mem _).1 hm).2
            have hlt2 : e.on < listed.size := by rw [hL.size]; omega
            simp only [Array.getD_eq_getD_getElem?, hlt2, Array.getElem?_eq_getElem, Option.getD_some] at this hlist
            rw [this] at hlist; cases hlist
          rcases hor with rfl | hor
          · exact hnot hk
          · exact hL.down e.on (by omega) hnot k hor hk
      have hApart : ∀ p ∈ l1, Apart s'.log p (i', x) := fun p hp => by
        have hpl : p ∈ l1 ++ (i', x) :: l2 := by simp [hp]
        have hlt : p.1 < i' := by
          have := hL.sorted
          simp only [List.map_append, List.map_cons] at this
          exact (List.pairwise_append.1 this).2.2 _ (List.mem_map.2 ⟨p, hp, rfl⟩) _ (by simp)
        have hpsz := ((hL.mem p.1).1 (List.mem_map.2 ⟨p, hpl, rfl⟩)).1
        obtain ⟨xp, hxp, hcp⟩ := hcomp p.1 _ (Array.getElem?_eq_getElem hpsz)
        rw [hin p hpl] at hxp; injection hxp with hxp; subst hxp
        obtain ⟨g1, g2⟩ := pairs_mem hps (hin p hpl) hx hlt (hbef p.1 (List.mem_map.2 ⟨p, hpl, rfl⟩))
        refine ⟨Nat.ne_of_lt hlt, ?_, g1, apartOk_mem hap _ _ _ g2⟩
        unfold compO at hcp
        split at hcp
        · injection hcp with hcp; rw [← hcp]
        · cases hcp
      obtain ⟨s'', hev', hS⟩ := bubble hev hnd hApart
      simp only [evL, stepX] at hev'
      split at hev'
      · rename_i s1 hs1
        have hok'' := hS.ok.1 hok
        refine step_sound h2 hR hco hs1 (evL_ok hev' hok'') fun a' w' γ' hR' => ?_
        refine ih (l1 ++ l2) _ a' w' s1 s'' γ' ?_ ?_ ?_ hR' hev' hok'' (by rw [← hS.log]; exact hap) ?_
        · simp only [List.length_append, List.length_cons] at hle ⊢; omega
        · refine ⟨by simp [hL.size], fun k => ?_, ?_, fun k hk hnk j hb hj => ?_⟩
          · rw [hsub, hL.mem]
            by_cases hki : k = i'
            · subst hki
              have : k < listed.size := by rw [hL.size]; exact hisz
              simp [this]
            · rw [getD_set_ne true (Ne.symm hki)]
              simp [hki]
          · have := hL.sorted
            simp only [List.map_append, List.map_cons] at this ⊢
            obtain ⟨g1, g2, g3⟩ := List.pairwise_append.1 this
            exact List.pairwise_append.2 ⟨g1, (List.pairwise_cons.1 g2).2, fun a ha b hb => g3 a ha b (by simp [hb])⟩
          · have hjl := ((hsub j).1 hj).1
            by_cases hki : k = i'
            · subst hki
              rw [hbef j hjl] at hb; cases hb
            · exact hL.down k hk (fun hm => hnk ((hsub k).2 ⟨hm, hki⟩)) j hb hjl
        · intro p hp
          refine hin p ?_
          simp only [List.mem_append, List.mem_cons] at hp ⊢
          rcases hp with hp | hp
          · exact .inl hp
          · exact .inr (.inr hp)
        · intro a'' w'' s3 γ'' h4 h5
          exact hK a'' w'' s3 γ'' (hS.trans h4) h5
      · cases hev'
end
end Pv
end Go.Proofs.YtafnkpmoolbjjaaDoor
/- CODE: what 'vc' asks for is enough. -/
set_option linter.unusedSimpArgs false
set_option linter.unusedVariables false
namespace Go.Proofs.YtafnkpmoolbjjaaDoor
namespace Pv
open Go.RowKit
section
variable {S : FuncId → List PV → List SE → CallRes → Prop}
abbrev Any : FuncId → List PV → List SE → CallRes → Prop := fun _ _ _ _ => True
theorem eff_nocall {S S' : FuncId → List PV → List SE → CallRes → Prop} {c : CallRes} {d : Nat} {i : I} {vs : List PV} {ids : List Nat} {cs : List SE} (h : i.isCall = false) : eff S c d i vs ids cs = eff S' c d i vs ids cs := by
  cases i <;> first | rfl | simp [I.isCall] at h
theorem stepI_nocall {S' : FuncId → List PV → List SE → CallRes → Prop} {lg : Bool} {c : CallRes} {i : Nat} {o : Ins} {s : PS} (h : o.i.isCall = false) : stepI S lg c i o s = stepI S' lg c i o s := by
  obtain ⟨n, fr, st, ok, log⟩ := s
  obtain ⟨od, oid, og, oi⟩ := o
  unfold stepI
  simp only [eff_nocall (S := S) (S' := S') h]
theorem okG_false : ∀ (l l' : List Prop) (ok : Prop), l.length = l'.length → okG false ok l = okG false ok l'
  | [], [], ok, h => rfl
  | [], _ :: _, ok, h => by simp at h
  | _ :: _, [], ok, h => by simp at h
  | p :: l, q :: l', ok, h => by
    simp only [okG]
    have : (ok ∧ (false = true → p)) = (ok ∧ (false = true → q)) := by apply propext; simp
    rw [this]
    exact okG_false l l' _ (by simpa using h)
theorem stepI_call {lg : Bool} {c : CallRes} {i : Nat} {o : Ins} {s : PS} {G : Bool} {f : FuncId} {a : List PV} {b : List SE} (hc : o.i.isCall = true) (hat : callAt o s = some (G, f, a, b)) (hS : G = true → S f a b c) : stepI S lg c i o s = stepI Any lg c i o s := by
  obtain ⟨n, fr, st, ok, log⟩ := s
  obtain ⟨od, oid, og, oi⟩ := o
  cases oi with
  | call cf xs =>
    unfold callAt at hat
    simp only at hat
    split at hat
    · cases hat
    · rename_i G' hG
      split at hat
      · cases hat
      · rename_i vs0 hvs
        split at hat
        · cases hat
        · rename_i f0 args hst
          split at hat
          · cases hat
          · rename_i cs hcs
            split at hat
            · rename_i id args' bs hca
              simp only [norm_someL, snorm_someL, Option.some.injEq, Prod.mk.injEq] at hat
              obtain ⟨rfl, rfl, rfl, rfl⟩ := hat
              rcases hss : stripS G' vs0 with ⟨sd, vs⟩
              rw [hss] at hst hcs hca
              simp only at hst hcs hca
              subst hst
              cases G' with
              | true =>
                have he : ∀ d, eff S c d (.call cf xs) (f0 :: args) ((I.call cf xs).acc (f0 :: args)) cs = eff Any c d (.call cf xs) (f0 :: args) ((I.call cf xs).acc (f0 :: args)) cs := fun d => by
                  simp only [eff, eCall, callV, hca]
                  have : S id args' (bs.map (·.2)) c = True := eq_true (hS rfl)
                  simp only [this]
                unfold stepI
                simp only [hG, hvs, stripI, hss, hcs, he]
              | false =>
                cases og with
                | none => simp [guardV] at hG
                | some g =>
                  unfold stepI
                  simp only [hG, hvs, stripI, hss, hcs, eff, eCall, callV, hca]
                  cases hgv : natIn id givers with
                  | true =>
                    generalize c.val = cv
                    generalize c.st = cst
                    generalize c.news = cnw
                    have key : ∀ s : Prop, givV (((I.call cf xs).acc (f0 :: args)).headD 0) s cv cst cnw = none ∨ ∃ v w k, ∀ s : Prop, givV (((I.call cf xs).acc (f0 :: args)).headD 0) s cv cst cnw = some ⟨v, [s], [w], [], k, []⟩ := fun s => by
                      unfold givV
                      split
                      · split
                        · exact .inr ⟨_, _, _, fun _ => rfl⟩
                        · exact .inl rfl
                      · exact .inl rfl
                    rcases key (S id args' (bs.map (·.2)) c) with h0 | ⟨v0, w0, k0, h0⟩
                    · rcases key (Any id args' (bs.map (·.2)) c) with h1 | ⟨v1, w1, k1, h1⟩
                      · simp only [h0, h1]
                      · rw [h1] at h0; cases h0
                    · simp only [h0]
                  | false =>
                  simp only
                  split
                  · rename_i h1
                    split at h1
                    · cases h1
                    · rename_i hn; simp only [if_neg hn]
                  · rename_i val side wr nw kill rm h1
                    split at h1
                    · rename_i hcond
                      simp only [Option.some.injEq, Eff.mk.injEq] at h1
                      obtain ⟨rfl, rfl, rfl, rfl, rfl, rfl⟩ := h1
                      simp only [if_pos hcond]
                      rw [okG_false (sd ++ [S id args' (bs.map (·.2)) c]) (sd ++ [True]) ok (by simp)]
                    · cases h1
            · cases hat
  | _ => simp [I.isCall] at hc
theorem stepX_nocall {S' : FuncId → List PV → List SE → CallRes → Prop} {lg : Bool} {c : CallRes} {i : Nat} {o : Ins} {s : PS} (h : o.i.isCall = false) : stepX S lg c i o s = stepX S' lg c i o s := by
  cases lg with
  | true => simp only [stepX]; exact stepI_nocall h
  | false =>
    obtain ⟨od, oid, og, oi⟩ := o
    obtain ⟨n, fr, st, ok, log⟩ := s
    simp only [stepX, stepG]
    cases og with
    | none => simp only [stepI_nocall (S := S) (S' := S') (lg := false) (c := c) (i := i) (o := ⟨od, oid, none, oi⟩) h]
    | some g =>
      have e1 := stepI_nocall (S := S) (S' := S') (lg := false) (c := c) (i := i) (o := ⟨od, oid, some g, oi⟩) (s := ⟨n, fr, st, ok, log⟩) h
      have e2 := stepI_nocall (S := S) (S' := S') (lg := false) (c := c) (i := i) (o := ⟨od, oid, none, oi⟩) (s := ⟨n, fr, st, ok, log⟩) h
      cases oi.heavy with
      | true => simp only [e2]
      | false =>
        cases skipJ ⟨od, oid, some g, oi⟩ ⟨n, fr, st, ok, log⟩ with
        | true => simp only [e1]
        | false =>
          simp only
          rw [e1]
          simp only [e2]
theorem stepX_call {lg : Bool} {c : CallRes} {i : Nat} {o : Ins} {s : PS} {G : Bool} {f : FuncId} {a : List PV} {b : List SE} (hc : o.i.isCall = true) (hat : callAt o s = some (G, f, a, b)) (hS : G = true → S f a b c) : stepX S lg c i o s = stepX Any lg c i o s := by
  cases lg with
  | true => simp only [stepX]; exact stepI_call hc hat hS
  | false =>
    have hh : o.i.heavy = false := by
      obtain ⟨od, oid, og, oi⟩ := o
      cases oi <;> simp [I.isCall] at hc <;> rfl
    have e := stepI_call (lg := false) (i := i) hc hat hS
    obtain ⟨od, oid, og, oi⟩ := o
    obtain ⟨n, fr, st, ok, log⟩ := s
    simp only [stepX, stepG]
    simp only at hh
    rw [hh]
    cases og with
    | none => exact e
    | some g =>
      cases skipJ ⟨od, oid, some g, oi⟩ ⟨n, fr, st, ok, log⟩ with
      | true =>
        have hp : oi.isPick = false := by cases oi <;> simp [I.isCall] at hc <;> rfl
        simp only [hp]
      | false =>
        simp only
        rw [e]
        split
        · rfl
        · split
          · rename_i hgv
            have hat2 : callAt ⟨od, oid, none, oi⟩ ⟨n, fr, st, ok, log⟩ = some (G, f, a, b) := by
              unfold callAt at hat ⊢
              simp only [hgv] at hat
              simp only [guardV]
              exact hat
            exact stepI_call (lg := false) (i := i) (o := ⟨od, oid, none, oi⟩) hc hat2 hS
          · rfl
          · rfl
theorem stepX_skip {S' : FuncId → List PV → List SE → CallRes → Prop} {lg : Bool} {c : CallRes} {i : Nat} {o : Ins} {s : PS} (h : (o.i.isCall && (lg || !skipJ o s)) = false) : stepX S lg c i o s = stepX S' lg c i o s := by
  cases hc : o.i.isCall with
  | false => exact stepX_nocall hc
  | true =>
    rw [hc] at h
    simp only [Bool.true_and, Bool.or_eq_false_iff, Bool.not_eq_false'] at h
    obtain ⟨rfl, hs⟩ := h
    have hh : o.i.heavy = false := by
      obtain ⟨od, oid, og, oi⟩ := o
      cases oi <;> simp [I.isCall] at hc <;> rfl
    obtain ⟨od, oid, og, oi⟩ := o
    obtain ⟨n, fr, st, ok, log⟩ := s
    simp only [stepX, stepG]
    simp only at hh
    rw [hh, hs]
    cases og with
    | none => simp [skipJ] at hs
    | some g =>
      have hp : oi.isPick = false := by cases oi <;> simp [I.isCall] at hc <;> rfl
      simp only [hp]
def num : Nat → List Ins → List (Nat × Ins)
  | _, [] => []
  | i, x :: r => (i, x) :: num (i + 1) r
theorem num_fst : ∀ (l : List Ins) (i : Nat), (num i l).map (·.1) = List.range' i l.length
  | [], i => rfl
  | x :: l, i => by simp [num, num_fst l (i + 1), List.range'_succ]
theorem num_get : ∀ (l : List Ins) (i : Nat) (p : Nat × Ins), p ∈ num i l → i ≤ p.1 ∧ l[p.1 - i]? = some p.2
  | [], i, p, h => by simp [num] at h
  | x :: l, i, p, h => by
    simp only [num, List.mem_cons] at h
    rcases h with rfl | h
    · exact ⟨Nat.le_refl _, by simp⟩
    · obtain ⟨h1, h2⟩ := num_get l (i + 1) p h
      refine ⟨by omega, ?_⟩
      rw [show p.1 - i = (p.1 - (i + 1)) + 1 from by omega]
      simpa using h2
theorem evL_cr {lg : Bool} {cr cr' : Nat → CallRes} : ∀ {l : List (Nat × Ins)} {s : PS}, (∀ p ∈ l, cr p.1 = cr' p.1) → evL S lg cr l s = evL S lg cr' l s
  | [], s, h => rfl
  | (i, x) :: r, s, h => by
    simp only [evL, h (i, x) (by simp)]
    split
    · exact evL_cr fun p hp => h p (by simp [hp])
    · rfl
theorem evK_evL {lg : Bool} : ∀ {l : List Ins} {i : Nat} {s : PS} {K : PS → Prop}, evK S lg i l s K → ∃ cr s', evL S lg cr (num i l) s = some s' ∧ K s'
  | [], i, s, K, h => ⟨fun _ => default, s, rfl, h⟩
  | x :: l, i, s, K, h => by
    simp only [evK] at h
    have main : ∀ (c : CallRes) (s1 : PS), stepX S lg c i x s = some s1 → evK S lg (i + 1) l s1 K → ∃ cr s', evL S lg cr (num i (x :: l)) s = some s' ∧ K s' := fun c s1 h1 h2 => by
      obtain ⟨cr, s', h3, h4⟩ := evK_evL h2
      refine ⟨fun k => if k = i then c else cr k, s', ?_, h4⟩
      simp only [num, evL, if_pos, h1]
      rw [← h3]
      refine evL_cr fun p hp => ?_
      have := (num_get l (i + 1) p hp).1
      rw [if_neg (by omega)]
    split at h
    · rename_i hc
      have hc := (Bool.and_eq_true_iff.1 hc).1
      split at h
      · rename_i G id args bs hat
        obtain ⟨c, hS, h⟩ := h
        split at h
        · rename_i s1 h1
          refine main c s1 ?_ h
          rw [stepX_call hc hat hS]; exact h1
        · exact h.elim
      · exact h.elim
    · rename_i hc
      split at h
      · rename_i s1 h1
        refine main default s1 ?_ h
        rw [stepX_skip (S' := Any) hc]; exact h1
      · exact h.elim
end
/-! ### code -/
def lvOf : Exit → Option Lv
  | .normal => some .nrm
  | .exit i => some (.ex i)
  | .ret => some .ret
  | _ => none
section
variable {P : Program}
def post (X : Cx) (w0 : World) (may : Nat → Prop) (Q : Lv → PS → Prop) (e : Exit) (a : Act) (w : World) : Prop :=
  ∃ lv s γ, lvOf e = some lv ∧ Q lv s ∧ Rel X w0 may a w s γ
def LSem (P : Program) (wr : Bool) (np : Nat) (c : C) (Q : Lv → PS → Prop) (s : PS) : Prop :=
  (∀ lv s, Q lv s → s.ok) → ∀ code, comp P wr code = some c.er → ∀ X w0 may a w γ, X.np = np → Rel X w0 may a w s γ → code.wp P (post X w0 may Q) a w
theorem Rel.same {X : Cx} {w0 : World} {may : Nat → Prop} {a : Act} {w : World} {s s' : PS} {γ : Gh} (h : Rel X w0 may a w s γ) (hn : s.n = s'.n) (hf : s.fr = s'.fr) (hs : s.st = s'.st) : Rel X w0 may a w s' γ :=
  ⟨by rw [← hn]; exact h.size, h.defers, fun t p hp => by rw [← hf] at hp; rw [← hn]; exact h.fr t p hp, by rw [← hs]; exact h.st, h.keeps, h.lo, h.own, h.asLt, fun r hr => by rw [← hs]; exact h.par r hr, h.mayP⟩
theorem Rep.drew {X : Cx} {γ : Gh} {w : World} {p : PV} {v : Value} (h : Rep X γ w p v) : Rep X γ { w with drawn := w.drawn + 1 } p v :=
  h.mono (fun _ _ h => h) (fun _ h => .inl h) (Nat.le_refl _) (fun _ _ _ => rfl)
theorem Rel.drew {X : Cx} {w0 : World} {may : Nat → Prop} {a : Act} {w : World} {s : PS} {γ : Gh} (h : Rel X w0 may a w s γ) : Rel X w0 may a { w with drawn := w.drawn + 1 } s γ :=
  ⟨h.size, h.defers, fun t p hp => ⟨(h.fr t p hp).1, (h.fr t p hp).2.drew⟩,
    ⟨h.st.dom, fun r ge e hg he => (h.st.at_ r ge e hg he).mono (fun _ _ hp => hp.drew) (fun _ _ => rfl), h.st.inj, h.st.asOff, h.st.lt, h.st.glob⟩,
    ⟨h.keeps.os, h.keeps.tape, h.keeps.output, h.keeps.size, h.keeps.block⟩, h.lo, h.own, h.asLt, h.par, h.mayP⟩
theorem comp_ins {wr : Bool} {ops : Array Oper} {ins : List Ins} (h : mapO (compO P wr ops) ops.toList = some ins) (k : Nat) (o : Oper) (hk : ops[k]? = some o) : ∃ x, ins[k]? = some x ∧ compO P wr ops o = some x := by
  have := mapO_get h k o (by simpa using hk)
  exact this
theorem vc_sound {wr : Bool} {np : Nat} (hmix : P.follows .mixedOrders = true) : ∀ (c : C) (code : Code) (Q : Lv → PS → Prop) (s : PS), (∀ lv s, Q lv s → s.ok) → comp P wr code = some c.er → vc (PureCall P) (LSem P wr np) c Q s →
    s.ok ∧ ∀ X w0 may a w γ, X.np = np → Rel X w0 may a w s γ → code.wp P (post X w0 may Q) a w := by
  intro c
  induction c with
  | skip =>
    intro code Q s hQ hc h
    refine ⟨hQ _ _ h, fun X w0 may a w γ hX hR => ?_⟩
    have : code = .skip := by
      cases code with
      | skip => rfl
      | region id ops dr => cases dr <;> simp only [comp, C.er] at hc <;> (repeat' (split at hc)) <;> simp_all
      | _ => simp only [comp, C.er] at hc <;> (repeat' (split at hc)) <;> simp_all
    subst this
    exact wp_skip ⟨_, _, _, rfl, h, hR⟩
  | reg ins =>
    intro code Q s hQ hc h
    simp only [vc] at h
    obtain ⟨cr, s', h1, h2⟩ := evK_evL h
    have hok := hQ _ _ h2
    refine ⟨evL_ok h1 hok, fun X w0 may a w γ hX hR => ?_⟩
    have : ∃ id ops, code = .region id ops false ∧ mapO (compO P wr ops) ops.toList = some ins := by
      cases code with
      | region id ops dr =>
        cases dr with
        | false =>
          simp only [comp, C.er] at hc
          split at hc
          · rename_i hm
            simp only [Option.some.injEq, C.reg.injEq] at hc
            subst hc
            exact ⟨id, ops, rfl, hm⟩
          · cases hc
        | true => simp only [comp, C.er] at hc; (repeat' (split at hc)) <;> cases hc
      | _ => simp only [comp, C.er] at hc <;> (repeat' (split at hc)) <;> simp_all
    obtain ⟨id, ops, rfl, hm⟩ := this
    refine wp_region ?_
    have hlen : ops.size = ins.length := by have := mapO_length hm; simpa using this.symm
    have := reg_sound (ops := ops) (wr := wr) (l := num 0 ins) (Q := post X w0 may Q) (fun p hp => by
      obtain ⟨_, hg⟩ := num_get ins 0 p hp
      have hlt := (List.getElem?_eq_some_iff.1 hg).1
      have ho : ops[p.1]? = some (ops[p.1]'(by omega)) := Array.getElem?_eq_getElem (by omega)
      obtain ⟨x, hx, hco⟩ := comp_ins hm _ _ ho
      rw [show p.1 - 0 = p.1 from rfl, hx] at hg
      injection hg with hg; subst hg
      exact ⟨_, ho, hco⟩) hR h1 hok (fun a' w' γ' hR' => ⟨_, _, _, rfl, h2, hR'⟩)
    rw [num_fst, ← hlen, ← List.range_eq_range'] at this
    exact this
  | drw ins ps =>
    intro code Q s hQ hc h
    obtain ⟨n, fr, st, ok, log⟩ := s
    simp only [vc] at h
    obtain ⟨cr, s', h1, h2⟩ := evK_evL h
    obtain ⟨n', fr', st', ok', log'⟩ := s'
    simp only at h2
    obtain ⟨hap, h2⟩ := h2
    have hok := hQ _ _ h2
    have hok0 := evL_ok h1 hok
    refine ⟨hok0, fun X w0 may a w γ hX hR => ?_⟩
    have : ∃ id ops, code = .region id ops true ∧ mapO (compO P wr ops) ops.toList = some ins ∧ pairs (Region.before ops) ins = some ps ∧ edgesOk ops.toList = true := by
      cases code with
      | region id ops dr =>
        cases dr with
        | false => simp only [comp, C.er] at hc; split at hc <;> cases hc
        | true =>
          simp only [comp, C.er] at hc
          split at hc
          · rename_i ins' hm
            split at hc
            · rename_i ps' hp
              split at hc
              · rename_i he
                simp only [Option.some.injEq, C.drw.injEq] at hc
                obtain ⟨rfl, rfl⟩ := hc
                exact ⟨id, ops, rfl, hm, hp, he⟩
              · cases hc
            · cases hc
          · cases hc
      | _ => simp only [comp, C.er] at hc <;> (repeat' (split at hc)) <;> simp_all
    obtain ⟨id, ops, rfl, hm, hp, he⟩ := this
    have hlen : ops.size = ins.length := by have := mapO_length hm; simpa using this.symm
    refine wp_region_any hmix ?_
    refine any_sound (wr := wr) (fun k o hk => comp_ins hm k o hk) hp (fun k o hk e hem heb => ?_) ops.size (num 0 ins) _ a _ _ _ γ ?_ ?_ ?_ (hR.drew.same (s' := ⟨n, fr, st, ok, fun _ => none⟩) rfl rfl rfl) h1 hok hap fun a' w' s'' γ' hS hR' => ?_
    · have h3 := List.all_eq_true.1 he (o, k) (List.mk_mem_zipIdx_iff_getElem?.2 (by simpa using hk))
      have h4 := Array.all_eq_true_iff_forall_mem.1 h3 e hem
      simp only [heb, Bool.not_true, Bool.false_or, decide_eq_true_eq] at h4
      exact h4
    · have := congrArg List.length (num_fst ins 0)
      simp only [List.length_map, List.length_range'] at this
      omega
    · refine ⟨by simp, fun k => ?_, ?_, fun k hk hnk => ?_⟩
      · rw [num_fst, ← hlen, ← List.range_eq_range', List.mem_range]
        constructor
        · intro h; exact ⟨h, by simp [h]⟩
        · rintro ⟨h, _⟩; exact h
      · rw [num_fst, ← List.range_eq_range']; exact List.pairwise_lt_range
      · rw [num_fst, ← hlen, ← List.range_eq_range', List.mem_range] at hnk; exact absurd hk hnk
    · intro p hp
      have := (num_get ins 0 p hp).2
      simpa using this
    · have e1 : s''.ok = ok' := propext hS.ok.symm
      obtain ⟨n2, fr2, st2, ok2, log2⟩ := s''
      have a1 := hS.n; have a2 := hS.fr; have a3 := hS.st
      simp only at e1 a1 a2 a3
      subst e1 a1 a2 a3
      exact ⟨_, _, _, rfl, h2, hR'.same rfl rfl rfl⟩
  | seq x y ihx ihy =>
    intro code Q s hQ hc h
    have : ∃ p q, code = .seq p q ∧ comp P wr p = some x.er ∧ comp P wr q = some y.er := by
      cases code with
      | seq p q =>
        simp only [comp, C.er] at hc
        split at hc
        · rename_i a b ha hb
          simp only [Option.some.injEq, C.seq.injEq] at hc
          obtain ⟨rfl, rfl⟩ := hc
          exact ⟨p, q, rfl, ha, hb⟩
        · cases hc
      | region id ops dr => cases dr <;> simp only [comp, C.er] at hc <;> (repeat' (split at hc)) <;> simp_all
      | _ => simp only [comp, C.er] at hc <;> (repeat' (split at hc)) <;> simp_all
    obtain ⟨p, q, rfl, hp, hq⟩ := this
    simp only [vc] at h
    obtain ⟨h1, h2⟩ := ihx p _ s (fun lv s' hs => by
      cases lv with
      | nrm => exact (ihy q Q s' hQ hq hs).1
      | ex i => exact hQ _ _ hs
      | ret => exact hQ _ _ hs) hp h
    refine ⟨h1, fun X w0 may a w γ hX hR => wp_seq (wp_mono (h2 X w0 may a w γ hX hR) ?_)⟩
    rintro e a' w' ⟨lv, s', γ', he, hq', hR'⟩
    cases e <;> simp only [lvOf, Option.some.injEq] at he
    · subst he; exact (ihy q Q s' hQ hq hq').2 X w0 may a' w' γ' hX hR'
    · subst he; exact ⟨_, _, _, rfl, hq', hR'⟩
    · cases he
    · subst he; exact ⟨_, _, _, rfl, hq', hR'⟩
    · cases he
    · cases he
  | cond g x y ihx ihy =>
    intro code Q s hQ hc h
    have : ∃ g' p q, code = .cond g' p q ∧ arg g' = some g ∧ comp P wr p = some x.er ∧ comp P wr q = some y.er := by
      cases code with
      | cond g' p q =>
        simp only [comp, C.er] at hc
        split at hc
        · rename_i c a b hc' ha hb
          simp only [Option.some.injEq, C.cond.injEq] at hc
          obtain ⟨rfl, rfl, rfl⟩ := hc
          exact ⟨g', p, q, rfl, hc', ha, hb⟩
        · cases hc
      | region id ops dr => cases dr <;> simp only [comp, C.er] at hc <;> (repeat' (split at hc)) <;> simp_all
      | _ => simp only [comp, C.er] at hc <;> (repeat' (split at hc)) <;> simp_all
    obtain ⟨g', p, q, rfl, hg, hp, hq⟩ := this
    obtain ⟨n, fr, st, ok, log⟩ := s
    simp only [vc] at h
    split at h
    · rename_i b hb
      obtain ⟨h1, h2, h3⟩ := h
      refine ⟨h1, fun X w0 may a w γ hX hR => ?_⟩
      have hgv := arg_rep (eval_opd hR) hg hb
      refine wp_cond_split hgv.bool_inv (fun ht => ?_) (fun hf => ?_)
      · exact (ihx p Q _ hQ hp (h2 ht)).2 X w0 may a w γ hX (hR.same rfl rfl rfl)
      · exact (ihy q Q _ hQ hq (h3 hf)).2 X w0 may a w γ hX (hR.same rfl rfl rfl)
    · exact h.elim
  | block id b ih =>
    intro code Q s hQ hc h
    have : ∃ p, code = .block id p ∧ comp P wr p = some b.er := by
      cases code with
      | block id' p =>
        simp only [comp, C.er, Option.map_eq_some_iff, C.block.injEq] at hc
        obtain ⟨b', hb, rfl, rfl⟩ := hc
        exact ⟨p, rfl, hb⟩
      | region id ops dr => cases dr <;> simp only [comp, C.er] at hc <;> (repeat' (split at hc)) <;> simp_all
      | _ => simp only [comp, C.er] at hc <;> (repeat' (split at hc)) <;> simp_all
    obtain ⟨p, rfl, hp⟩ := this
    simp only [vc] at h
    obtain ⟨h1, h2⟩ := ih p _ s (fun lv s' hs => by
      cases lv with
      | nrm => exact hQ _ _ hs
      | ex i => simp only at hs; split at hs <;> exact hQ _ _ hs
      | ret => exact hQ _ _ hs) hp h
    refine ⟨h1, fun X w0 may a w γ hX hR => wp_block (wp_mono (h2 X w0 may a w γ hX hR) ?_)⟩
    rintro e a' w' ⟨lv, s', γ', he, hq', hR'⟩
    cases e <;> simp only [lvOf, Option.some.injEq] at he
    · subst he; exact ⟨_, _, _, rfl, hq', hR'⟩
    · rename_i i
      subst he
      simp only [Exit.inBlock]
      simp only at hq'
      split at hq'
      · rename_i hi
        rw [if_pos (Nat.eq_of_beq_eq_true hi)]
        exact ⟨_, _, _, rfl, hq', hR'⟩
      · rename_i hi
        rw [if_neg (fun e => by rw [e, Nat.beq_refl] at hi; cases hi)]
        exact ⟨_, _, _, rfl, hq', hR'⟩
    · cases he
    · subst he; exact ⟨_, _, _, rfl, hq', hR'⟩
    · cases he
    · cases he
  | loop b ih =>
    intro code Q s hQ hc h
    obtain ⟨n, fr, st, ok, log⟩ := s
    simp only [vc] at h
    exact ⟨h.1, fun X w0 may a w γ hX hR => h.2 hQ code hc X w0 may a w γ hX (hR.same rfl rfl rfl)⟩
  | exit id =>
    intro code Q s hQ hc h
    have : code = .exit id := by
      cases code with
      | exit id' => simp only [comp, C.er, Option.some.injEq, C.exit.injEq] at hc; rw [hc]
      | region id ops dr => cases dr <;> simp only [comp, C.er] at hc <;> (repeat' (split at hc)) <;> simp_all
      | _ => simp only [comp, C.er] at hc <;> (repeat' (split at hc)) <;> simp_all
    subst this
    exact ⟨hQ _ _ h, fun X w0 may a w γ hX hR => wp_exit ⟨_, _, _, rfl, h, hR⟩⟩
  | scope b ih =>
    intro code Q s hQ hc h
    have : ∃ p, code = .scope p ∧ comp P wr p = some b.er := by
      cases code with
      | scope p =>
        simp only [comp, C.er, Option.map_eq_some_iff, C.scope.injEq] at hc
        obtain ⟨b', hb, rfl⟩ := hc
        exact ⟨p, rfl, hb⟩
      | region id ops dr => cases dr <;> simp only [comp, C.er] at hc <;> (repeat' (split at hc)) <;> simp_all
      | _ => simp only [comp, C.er] at hc <;> (repeat' (split at hc)) <;> simp_all
    obtain ⟨p, rfl, hp⟩ := this
    simp only [vc] at h
    obtain ⟨h1, h2⟩ := ih p Q s hQ hp h
    refine ⟨h1, fun X w0 may a w γ hX hR => wp_scope_straight (wp_mono (h2 X w0 may a w γ hX hR) ?_)⟩
    rintro e a' w' ⟨lv, s', γ', he, hq', hR'⟩
    cases e <;> simp only [lvOf, Option.some.injEq] at he
    · subst he; exact ⟨_, _, _, rfl, hq', hR'⟩
    · subst he; exact ⟨_, _, _, rfl, hq', hR'⟩
    · cases he
    · subst he; exact ⟨_, _, _, rfl, hq', hR'⟩
    · cases he
    · cases he
  | ret =>
    intro code Q s hQ hc h
    have : code = .ret := by
      cases code with
      | ret => rfl
      | region id ops dr => cases dr <;> simp only [comp, C.er] at hc <;> (repeat' (split at hc)) <;> simp_all
      | _ => simp only [comp, C.er] at hc <;> (repeat' (split at hc)) <;> simp_all
    subst this
    exact ⟨hQ _ _ h, fun X w0 may a w γ hX hR => wp_ret ⟨_, _, _, rfl, h, hR⟩⟩
  | bad =>
    intro code Q s hQ hc h
    exact h.elim
  | cut b ih =>
    intro code Q s hQ hc h
    obtain ⟨n, fr, st, ok, log⟩ := s
    simp only [vc] at h
    exact ⟨h.1, fun X w0 may a w γ hX hR => h.2 hQ code hc X w0 may a w γ hX (hR.same rfl rfl rfl)⟩
end
end Pv
end Go.Proofs.YtafnkpmoolbjjaaDoor
/- ONE PURE STATE SAYS NO MORE THAN ANOTHER. -/
set_option linter.unusedSimpArgs false
set_option linter.unusedVariables false
namespace Go.Proofs.YtafnkpmoolbjjaaDoor
namespace Pv
open Go.RowKit
def RowEq (n : Nat) (f f' : Nat → List PV) : Prop := ∀ i, i < n → f i = f' i
def MpEq (ks : List KK) (h : List PC → Bool) (f : List PC → List PC) (h' : List PC → Bool) (f' : List PC → List PC) : Prop := ∀ kl, okK ks kl = true → h kl = h' kl ∧ f kl = f' kl
mutual
def PLe (st : Nat → Option SE) (kp : Nat → Bool) : PV → PV → Prop
  | .agg cs, q => match q with
    | .agg cs' => PLeL st kp cs cs'
    | .junk => True
    | _ => False
  | .tup cs, q => match q with
    | .tup cs' => PLeL st kp cs cs'
    | .junk => True
    | _ => False
  | .fn f a b, q => match q with
    | .fn f' a' b' => f = f' ∧ PLeL st kp a a' ∧ PLeL st kp b b'
    | .junk => True
    | _ => False
  | .cnd g p, q => match q with
    | .cnd g' p' => g = g' ∧ PLe st kp p p'
    | .junk => True
    | _ => False
  | .int k n, q => match q with
    | .int k' n' => k = k' ∧ n = n'
    | .junk => True
    | _ => False
  | .bool b, q => match q with
    | .bool b' => b = b'
    | .junk => True
    | _ => False
  | .str s, q => match q with
    | .str s' => s = s'
    | .junk => True
    | _ => False
  | .sl τ z n f, q => match q with
    | .sl τ' z' n' f' => τ ≤ τ' ∧ z = z' ∧ n = n' ∧ RowEq n f f'
    | .junk => True
    | _ => False
  | .nil _, q => match q with
    | .nil _ => True
    | .sl _ _ n' _ => n' = 0
    | .junk => True
    | _ => False
  | .os r, q => match q with
    | .os r' => r = r' ∧ kp r = true
    | .sl τ' z' n' f' => kp r = false ∧ (match st r with
      | some (.row τ _ z n f) => τ ≤ τ' ∧ z = z' ∧ n = n' ∧ RowEq n f f'
      | _ => False)
    | .junk => True
    | _ => False
  | .vw h r lo n, q => match q with
    | .vw h' r' lo' n' => h = h' ∧ r = r' ∧ lo = lo' ∧ n = n' ∧ kp r = true
    | .junk => True
    | _ => False
  | .rf m r, q => match q with
    | .rf m' r' => m = m' ∧ r = r' ∧ kp r = true
    | .junk => True
    | _ => False
  | .mpv ks vks ka va h f, q => match q with
    | .mpv ks' vks' ka' va' h' f' => ks = ks' ∧ vks = vks' ∧ ka = ka' ∧ va = va' ∧ MpEq ks h f h' f'
    | _ => False
  | .pt r i j, q => match q with
    | .pt r' i' j' => r = r' ∧ i = i' ∧ j = j' ∧ kp r = true
    | .junk => True
    | _ => False
  | .rp τ cs, q => match q with
    | .rp τ' cs' => τ ≤ τ' ∧ cs = cs'
    | .junk => True
    | _ => False
  | .raw v, q => match q with
    | .raw v' => v = v'
    | .junk => True
    | _ => False
  | .junk, q => match q with
    | .junk => True
    | _ => False
def PLeL (st : Nat → Option SE) (kp : Nat → Bool) : List PV → List PV → Prop
  | [], l => match l with
    | [] => True
    | _ :: _ => False
  | p :: ps, l => match l with
    | [] => False
    | q :: qs => PLe st kp p q ∧ PLeL st kp ps qs
end
def SLe (st : Nat → Option SE) (kp : Nat → Bool) : SE → SE → Prop
  | .box l, e => match e with
    | .box l' => PLeL st kp l l'
    | .row .. => False
    | .bld .. => False
  | .row τ e z n f, e2 => match e2 with
    | .row τ' e' z' n' f' => τ ≤ τ' ∧ e = e' ∧ z = z' ∧ n = n' ∧ RowEq n f f'
    | .box _ => False
    | .bld .. => False
  | .bld T e s, e2 => match e2 with
    | .bld T' e' s' => T = T' ∧ e = e' ∧ s = s'
    | .box _ => False
    | .row .. => False
theorem PLeL_len {st : Nat → Option SE} {kp : Nat → Bool} : ∀ {l l' : List PV}, PLeL st kp l l' → l'.length = l.length
  | [], [], _ => rfl
  | [], _ :: _, h => by simp [PLeL] at h
  | _ :: _, [], h => by simp [PLeL] at h
  | p :: ps, q :: qs, h => by simp only [PLeL] at h; simp [PLeL_len h.2]
theorem PLeL_get {st : Nat → Option SE} {kp : Nat → Bool} : ∀ {l l' : List PV}, PLeL st kp l l' → ∀ (k : Nat) (q : PV), l'[k]? = some q → ∃ p, l[k]? = some p ∧ PLe st kp p q
  | [], [], _, k, q, hk => by simp at hk
  | [], _ :: _, h, k, q, hk => by simp [PLeL] at h
  | _ :: _, [], h, k, q, hk => by simp at hk
  | p :: ps, q' :: qs, h, k, q, hk => by
    simp only [PLeL] at h
    cases k with
    | zero => simp only [List.getElem?_cons_zero, Option.some.injEq] at hk; subst hk; exact ⟨p, rfl, h.1⟩
    | succ k => simpa using PLeL_get h.2 k q (by simpa using hk)
theorem flat_le {st : Nat → Option SE} {kp : Nat → Bool} {c : PV} (h : c.flat = true) {τ τ' : Nat} (ht : τ ≤ τ') : PLe st kp (c.mark τ) (c.mark τ') := by
  cases c with
  | fn f a b => obtain ⟨rfl, rfl⟩ := flat_fn h; simp [PV.mark, PLe, PLeL]
  | _ => first | (simp [PV.flat] at h; done) | simp [PV.mark, PLe, RowEq, ht]
section
variable {P : Program} {X : Cx} {γ γ' γk : Gh} {w : World} {st : Nat → Option SE} {kp : Nat → Bool}
theorem Rep.own_less {p : PV} {v : Value} (h : Rep X γ w p v) (ho : ∀ b, γ'.own b → γ.own b) : p.flat = true → Rep X γ' w p v := by
  induction h with
  | int k n => intro _; exact .int k n
  | bool b => intro _; exact .bool b
  | str s => intro _; exact .str s
  | sl τ z n f ad cap vs hcap hz hf hb h ih =>
    intro _
    refine .sl τ z n f ad cap vs hcap hz hf (fun hn => ?_) (fun i j c hi hc => ih i j c hi hc (flat_mark (hf i hi c (List.mem_of_getElem? hc)) τ))
    obtain ⟨a, rfl, hm, hlt, hc⟩ := hb hn
    exact ⟨a, rfl, ⟨fun h => hm.1 (ho _ h), hm.2⟩, hlt, hc⟩
  | fn f first caps vs us hl hl' h h' ih ih' =>
    intro hf
    obtain ⟨rfl, rfl⟩ := flat_fn hf
    exact (Rep.fn (X := X) (γ := γ) (w := w) f [] [] vs us hl hl' h h').fn_nil
  | _ => intro hf; simp [PV.flat] at hf
theorem Rep.le {p : PV} {v : Value} (h : Rep X γ w p v) (hst : RepSt X γ w st) (hlo : ∀ r ge b τ e z n f, γ r = some ge → st r = some (.row τ e z n f) → ge.blk = some b → X.my b)
    (hk1 : ∀ r ge, γ r = some ge → kp r = true → γk r = some ge) (hk2 : ∀ r ge, γk r = some ge → γ r = some ge ∧ kp r = true) : ∀ q, PLe st kp p q → Rep X γk w q v := by
  have hown : ∀ b, γk.own b → γ.own b := fun b ⟨r, ge, hr, hb⟩ => ⟨r, ge, (hk2 r ge hr).1, hb⟩
  have hlie : ∀ τ τ' b, τ ≤ τ' → mayLie X γ τ b → mayLie X γk τ' b := fun τ τ' b ht hm => ⟨fun h => hm.1 (hown b h), (hm.mono ht).2⟩
  have hrow : ∀ {τ τ' z n : Nat} {f f' : Nat → List PV} {v : Value} {ad : Option Addr} {cap : Nat} {vs : Nat → Value}, τ ≤ τ' → RowEq n f f' → (∀ i, i < n → (f i).length = z) → (∀ i, i < n → ∀ c ∈ f i, c.flat = true) → n ≤ cap →
      (0 < n → ∃ a, ad = some a ∧ mayLie X γk τ' a.block ∧ a.block < w.heap.size ∧ ∀ k, k < n * z → w.cell? (a.add k) = some (vs k)) →
      (∀ (i j : Nat) (c : PV), i < n → (f i)[j]? = some c → Rep X γk w (c.mark τ') (vs (i * z + j))) → Rep X γk w (.sl τ' z n f') (.slice ad n cap) := by
    intro τ τ' z n f f' v ad cap vs ht hrw hz hf hcap hb h
    refine .sl τ' z n f' ad cap vs hcap (fun i hi => by rw [← hrw i hi]; exact hz i hi) (fun i hi c hc => hf i hi c (by rw [hrw i hi]; exact hc)) hb (fun i j c hi hc => h i j c hi (by rw [hrw i hi]; exact hc))
  induction h with
  | int k n => intro q hq; unfold PLe at hq; split at hq <;> first | (obtain ⟨rfl, rfl⟩ := hq; exact .int _ _) | exact .junk _ | exact hq.elim
  | bool b => intro q hq; unfold PLe at hq; split at hq <;> first | (subst hq; exact .bool _) | exact .junk _ | exact hq.elim
  | str s => intro q hq; unfold PLe at hq; split at hq <;> first | (subst hq; exact .str _) | exact .junk _ | exact hq.elim
  | agg cs vs hl hc h ih =>
    intro q hq; unfold PLe at hq; split at hq
    · refine .agg _ vs (by rw [PLeL_len hq]; exact hl) hc fun k c u hk hu => ?_
      obtain ⟨p, hp, hle⟩ := PLeL_get hq k c hk
      exact ih k p u hp hu c hle
    · exact .junk _
    · exact hq.elim
  | tup cs vs hl h ih =>
    intro q hq; unfold PLe at hq; split at hq
    · refine .tup _ vs (by rw [PLeL_len hq]; exact hl) fun k c u hk hu => ?_
      obtain ⟨p, hp, hle⟩ := PLeL_get hq k c hk
      exact ih k p u hp hu c hle
    · exact .junk _
    · exact hq.elim
  | sl τ z n f ad cap vs hcap hz hf hb h ih =>
    intro q hq; unfold PLe at hq; split at hq
    · obtain ⟨ht, rfl, rfl, hrw⟩ := hq
      refine hrow (v := .slice ad n cap) ht hrw hz hf hcap (fun hn => ?_) (fun i j c hi hc => ih i j c hi hc _ (flat_le (hf i hi c (List.mem_of_getElem? hc)) ht))
      obtain ⟨a, rfl, hm, hlt, hc⟩ := hb hn
      exact ⟨a, rfl, hlie _ _ _ ht hm, hlt, hc⟩
    · exact .junk _
    · exact hq.elim
  | nil z =>
    intro q hq; unfold PLe at hq; split at hq
    · exact .nil _
    · subst hq; exact .sl _ _ 0 _ none 0 (fun _ => undef) (Nat.le_refl _) (fun i hi => by omega) (fun i hi => by omega) (fun hi => by omega) (fun i j c hi => by omega)
    · exact .junk _
    · exact hq.elim
  | os r ge hg h1 h2' =>
    intro q hq; unfold PLe at hq; split at hq
    · obtain ⟨rfl, hk⟩ := hq
      exact .os _ ge (hk1 _ _ hg hk) h1 h2'
    · rename_i τ' z' n' f'
      obtain ⟨hk, hq⟩ := hq
      split at hq
      · rename_i τ e z n f hs
        obtain ⟨ht, rfl, rfl, hrw⟩ := hq
        obtain ⟨vs, b1, b2, b3, ho, hr⟩ := (hst.at_ _ _ _ hg hs).rows
        obtain ⟨ad, cap, hv, hnc, _, hor⟩ := own_slice ho
        rw [hv]
        have hget : ∀ k, k < n * z → vs[k]? = some (vs.getD k undef) := fun k hk => by
          have : k < vs.length := by rw [hr.len]; exact hk
          simp [List.getD_eq_getElem?_getD, this]
        refine hrow (v := .slice ad n cap) (vs := fun k => vs.getD k undef) ht hrw hr.hz hr.hf hnc (fun hn => ?_) (fun i j c hi hc => ?_)
        · rcases hor with h0 | ⟨g, rfl, hlt, hbl⟩
          · omega
          · refine ⟨_, rfl, ⟨fun hown' => ?_, .inl (hlo r ge g _ _ _ _ _ hg hs (by rw [b2, hbl]))⟩, hlt, fun k hk => own_cells ho hv rfl k _ (hget k hk)⟩
            obtain ⟨r', ge', hr', hb'⟩ := hown'
            obtain ⟨e1, e2⟩ := hk2 r' ge' hr'
            have := hst.inj r r' ge ge' g hg e1 (.inl (by rw [b2, hbl])) hb'
            subst this
            rw [hk] at e2; cases e2
        · have hj : j < z := by rw [← hr.hz i hi]; exact (List.getElem?_eq_some_iff.1 hc).1
          have := hr.rep i j c _ hi hc (hget _ (idx_lt hi hj))
          have hfl := hr.hf i hi c (List.mem_of_getElem? hc)
          have h2 := this.mark_up τ' (Nat.le_trans (tau_mark c _) ht)
          rw [mark_mark] at h2
          exact h2.own_less hown (flat_mark hfl _)
      · exact hq.elim
    · exact .junk _
    · exact hq.elim
  | pt r i j ge b hg hb =>
    intro q hq; unfold PLe at hq; split at hq
    · obtain ⟨rfl, rfl, rfl, hk⟩ := hq
      exact .pt _ _ _ ge b (hk1 _ _ hg hk) hb
    · exact .junk _
    · exact hq.elim
  | rf r ge b hg hb =>
    intro q hq; unfold PLe at hq; split at hq
    · obtain ⟨rfl, rfl, hk⟩ := hq
      exact .rf _ ge b (hk1 _ _ hg hk) hb
    · exact .junk _
    · exact hq.elim
  | rfs z n r ge b hg hb =>
    intro q hq; unfold PLe at hq; split at hq
    · obtain ⟨rfl, rfl, hk⟩ := hq
      exact .rfs z n _ ge b (hk1 _ _ hg hk) hb
    · exact .junk _
    · exact hq.elim
  | rp τ cs a vs hf hb hc h ih =>
    intro q hq; unfold PLe at hq; split at hq
    · obtain ⟨ht, rfl⟩ := hq
      refine .rp _ _ a vs hf (fun hn => ?_) hc (fun k c hk => ih k c hk _ (flat_le (hf c (List.mem_of_getElem? hk)) ht))
      obtain ⟨hm, hlt⟩ := hb hn
      exact ⟨hlie _ _ _ ht hm, hlt⟩
    · exact .junk _
    · exact hq.elim
  | fn f first caps vs us hl hl' h h' ih ih' =>
    intro q hq; unfold PLe at hq; split at hq
    · obtain ⟨rfl, q1, q2⟩ := hq
      refine .fn _ _ _ vs us (by rw [PLeL_len q1]; exact hl) (by rw [PLeL_len q2]; exact hl') (fun k c u hk hu => ?_) (fun k c u hk hu => ?_)
      · obtain ⟨p, hp, hle⟩ := PLeL_get q1 k c hk
        exact ih k p u hp hu c hle
      · obtain ⟨p, hp, hle⟩ := PLeL_get q2 k c hk
        exact ih' k p u hp hu c hle
    · exact .junk _
    · exact hq.elim
  | vw h r lo n ge ad m cap hg hh hle h0 h2 =>
    intro q hq; unfold PLe at hq; split at hq
    · obtain ⟨rfl, rfl, rfl, rfl, hk⟩ := hq
      exact .vw _ _ _ _ ge ad m cap (hk1 _ _ hg hk) hh hle h0 h2
    · exact .junk _
    · exact hq.elim
  | raw v h1 => intro q hq; unfold PLe at hq; split at hq <;> first | (subst hq; exact .raw _ h1) | exact .junk _ | exact hq.elim
  | cnd g p v h hu ih =>
    intro q hq; unfold PLe at hq; split at hq
    · obtain ⟨rfl, hq⟩ := hq
      exact .cnd _ _ _ (fun hg => ih hg _ hq) hu
    · exact .junk _
    · exact hq.elim
  | junk v => intro q hq; unfold PLe at hq; split at hq <;> first | exact .junk _ | exact hq.elim
theorem RepL.le {l l' : List PV} {us : List Value} (h : RepL X γ w l us) (hst : RepSt X γ w st) (hlo : ∀ r ge b τ e z n f, γ r = some ge → st r = some (.row τ e z n f) → ge.blk = some b → X.my b)
    (hk1 : ∀ r ge, γ r = some ge → kp r = true → γk r = some ge) (hk2 : ∀ r ge, γk r = some ge → γ r = some ge ∧ kp r = true) (hl : PLeL st kp l l') : RepL X γk w l' us :=
  ⟨by rw [PLeL_len hl]; exact h.1, fun k c u hk hu => by
    obtain ⟨p, hp, hle⟩ := PLeL_get hl k c hk
    exact (h.2 k p u hp hu).le hst hlo hk1 hk2 c hle⟩
mutual
theorem Rep.unren {ρ : Nat → Nat} (ho : ∀ b, γ'.own b → γ.own b) : ∀ (p : PV) (v : Value), Rep X γ w (p.ren ρ) v → (∀ r ∈ p.ids, ∀ ge, γ (ρ r) = some ge → γ' r = some ge) → Rep X γ' w p v
  | .int k n, v, h, hi => by simp only [PV.ren] at h; cases h.int_inv; exact .int _ _
  | .bool b, v, h, hi => by simp only [PV.ren] at h; cases h.bool_inv; exact .bool _
  | .str s, v, h, hi => by simp only [PV.ren] at h; cases h.str_inv; exact .str _
  | .agg cs, v, h, hi => by
    simp only [PV.ren] at h
    obtain ⟨vs, rfl, hr, h1⟩ := h.agg_inv
    have := RepL.unren ho cs vs hr (fun r hr => hi r (by simpa [PV.ids] using hr))
    exact .agg _ _ this.1 h1 this.2
  | .tup cs, v, h, hi => by
    simp only [PV.ren] at h
    obtain ⟨vs, rfl, hr⟩ := h.tup_inv
    have := RepL.unren ho cs vs hr (fun r hr => hi r (by simpa [PV.ids] using hr))
    exact .tup _ _ this.1 this.2
  | .sl τ z n f, v, h, hi => by simp only [PV.ren] at h; exact h.own_less ho rfl
  | .nil z, v, h, hi => by simp only [PV.ren] at h; cases h.nil_inv; exact .nil _
  | .os r, v, h, hi => by
    simp only [PV.ren] at h
    cases h with
    | os _ ge hg h1 h2 => exact .os _ ge (hi r (by simp [PV.ids]) ge hg) h1 h2
  | .vw b r lo n, v, h, hi => by
    simp only [PV.ren] at h
    cases h with
    | vw _ _ _ _ ge ad m cap hg hh hle h0 h2 => exact .vw _ _ _ _ ge ad m cap (hi r (by simp [PV.ids]) ge hg) hh hle h0 h2
  | .pt r i j, v, h, hi => by
    simp only [PV.ren] at h
    cases h with
    | pt _ _ _ ge b hg hb => exact .pt _ _ _ ge b (hi r (by simp [PV.ids]) ge hg) hb
  | .rf m r, v, h, hi => by
    simp only [PV.ren] at h
    cases h with
    | rf _ ge b hg hb => exact .rf _ ge b (hi r (by simp [PV.ids]) ge hg) hb
    | rfs z n _ ge b hg hb => exact .rfs z n _ ge b (hi r (by simp [PV.ids]) ge hg) hb
  | .mpv _ _ _ _ _ _, v, h, hi => by simp only [PV.ren] at h; cases h
  | .rp τ cs, v, h, hi => by
    simp only [PV.ren] at h
    cases h with
    | rp _ _ a vs hf hb hc h =>
      refine .rp _ _ a vs hf (fun hn => ?_) hc (fun k c hk => (h k c hk).own_less ho (flat_mark (hf c (List.mem_of_getElem? hk)) _))
      obtain ⟨hm, hlt⟩ := hb hn
      exact ⟨⟨fun h => hm.1 (ho _ h), hm.2⟩, hlt⟩
  | .fn f a b, v, h, hi => by
    simp only [PV.ren] at h
    cases h with
    | fn _ _ _ vs us hl hl' h h' =>
      have h1 := RepL.unren ho a vs ⟨hl, h⟩ (fun r hr => hi r (by simp [PV.ids, hr]))
      have h2 := RepL.unren ho b us ⟨hl', h'⟩ (fun r hr => hi r (by simp [PV.ids, hr]))
      exact .fn _ _ _ vs us h1.1 h2.1 h1.2 h2.2
  | .raw u, v, h, hi => by
    simp only [PV.ren] at h
    cases h with | raw _ h1 => exact .raw _ h1
  | .cnd g p, v, h, hi => by
    simp only [PV.ren] at h
    cases h with
    | cnd _ _ _ h hu => exact .cnd _ _ _ (fun hg => Rep.unren ho p v (h hg) (fun r hr => hi r (by simpa [PV.ids] using hr))) hu
  | .junk, v, h, hi => .junk _
theorem RepL.unren {ρ : Nat → Nat} (ho : ∀ b, γ'.own b → γ.own b) : ∀ (l : List PV) (us : List Value), RepL X γ w (PV.renL ρ l) us → (∀ r ∈ PV.idsL l, ∀ ge, γ (ρ r) = some ge → γ' r = some ge) → RepL X γ' w l us
  | [], us, h, hi => by
    simp only [PV.renL] at h
    exact ⟨by simpa using h.1, fun k c u hk => by simp at hk⟩
  | p :: ps, us, h, hi => by
    simp only [PV.renL] at h
    obtain ⟨u, us', rfl, h1, h2⟩ := h.cons_inv
    exact RepL.cons_ (Rep.unren ho p u h1 (fun r hr => hi r (by simp [PV.idsL, hr]))) (RepL.unren ho ps us' h2 (fun r hr => hi r (by simp [PV.idsL, hr])))
end
end
end Pv
end Go.Proofs.YtafnkpmoolbjjaaDoor
/- RULES: taking stock; loops; places where branches meet; a function's body. -/
set_option linter.unusedSimpArgs false
set_option linter.unusedVariables false
namespace Go.Proofs.YtafnkpmoolbjjaaDoor
namespace Pv
open Go.RowKit
def SE.ids : SE → List Nat
  | .box l => PV.idsL l
  | .bld _ _ _ => []
  | .row .. => []
section
variable {P : Program} {X : Cx} {γ : Gh} {w w0 : World} {may : Nat → Prop} {a : Act} {s s' : PS}
def reG (γ : Gh) (st' : Nat → Option SE) (ρ : Nat → Nat) : Gh := fun r => if (st' r).isSome then γ (ρ r) else none
theorem mpv_le {st : Nat → Option SE} {kp : Nat → Bool} {ρ : Nat → Nat} {ks vks : List KK} {ka va : Bool} {hh : List PC → Bool} {f : List PC → List PC} {l' : List PV} (h : PLeL st kp [.mpv ks vks ka va hh f] (PV.renL ρ l')) :
    ∃ hh' f', l' = [.mpv ks vks ka va hh' f'] ∧ MpEq ks hh f hh' f' := by
  match l' with
  | [] => simp [PV.renL, PLeL] at h
  | [p] =>
    simp only [PV.renL, PLeL] at h
    cases p <;> simp only [PV.ren, PLe, false_and] at h
    obtain ⟨⟨rfl, rfl, rfl, rfl, h5⟩, _⟩ := h
    exact ⟨_, _, rfl, h5⟩
  | _ :: _ :: _ => simp [PV.renL, PLeL] at h
theorem MapRel.eq {ks vks : List KK} {ka va : Bool} {h h' : List PC → Bool} {f f' : List PC → List PC} {es : List MapEntry} (m : MapRel ks vks ka va h f es) (e : MpEq ks h f h' f') : MapRel ks vks ka va h' f' es := by
  refine ⟨fun x hx => ?_, fun kl hk hh => m.has kl hk (by rw [(e kl hk).1]; exact hh), fun kl hk => by rw [← (e kl hk).2]; exact m.val kl hk, fun kl hk hh => by rw [← (e kl hk).2]; exact m.zero kl hk (by rw [(e kl hk).1]; exact hh), m.dis, m.one⟩
  obtain ⟨kl, h1, h2, h3, h4⟩ := m.ent x hx
  exact ⟨kl, h1, h2, by rw [← (e kl h1).1]; exact h3, by rw [← (e kl h1).2]; exact h4⟩
theorem RepSt.ent {st st' : Nat → Option SE} {ρ : Nat → Nat} {kp : Nat → Bool} (h : RepSt X γ w st) (hlo : ∀ r ge b τ e z n f, γ r = some ge → st r = some (.row τ e z n f) → ge.blk = some b → X.my b)
    (hst : ∀ r e', st' r = some e' → ∃ e, st (ρ r) = some e ∧ SLe st kp e (e'.ren ρ) ∧ kp (ρ r) = true ∧ ∀ q ∈ e'.ids, ∃ e2, st' q = some e2)
    (hinj : ∀ r r' e e', st' r = some e → st' r' = some e' → ρ r = ρ r' → r = r') :
    RepSt X (reG γ st' ρ) w st' ∧ (∀ b, (reG γ st' ρ).own b → γ.own b) ∧
      ∀ p q v, Rep X γ w p v → PLe st kp p (PV.ren ρ q) → (∀ r ∈ q.ids, ∃ e, st' r = some e) → Rep X (reG γ st' ρ) w q v := by
  let γk : Gh := fun r => if kp r then γ r else none
  have hk1 : ∀ r ge, γ r = some ge → kp r = true → γk r = some ge := fun r ge hr hk => by simp only [γk, hk, if_true]; exact hr
  have hk2 : ∀ r ge, γk r = some ge → γ r = some ge ∧ kp r = true := fun r ge hr => by
    simp only [γk] at hr
    split at hr
    · rename_i hk; exact ⟨hr, hk⟩
    · cases hr
  have hinv : ∀ r ge, reG γ st' ρ r = some ge → ∃ e', st' r = some e' ∧ γ (ρ r) = some ge ∧ kp (ρ r) = true := fun r ge hr => by
    unfold reG at hr
    split at hr
    · rename_i hs
      obtain ⟨e', he'⟩ := Option.isSome_iff_exists.1 hs
      obtain ⟨_, _, _, hk, _⟩ := hst r e' he'
      exact ⟨e', he', hr, hk⟩
    · cases hr
  have ho : ∀ b, (reG γ st' ρ).own b → γk.own b := fun b ⟨r, ge, hr, hb⟩ => by
    obtain ⟨e', _, h2, h3⟩ := hinv r ge hr
    exact ⟨ρ r, ge, hk1 _ _ h2 h3, hb⟩
  have hok : ∀ b, γk.own b → γ.own b := fun b ⟨r, ge, hr, hb⟩ => ⟨r, ge, (hk2 _ _ hr).1, hb⟩
  have hid : ∀ r e', st' r = some e' → ∀ ge, γk (ρ r) = some ge → reG γ st' ρ r = some ge := fun r e' he ge hg => by
    unfold reG; rw [he]; simp only [Option.isSome_some, if_true]; exact (hk2 _ _ hg).1
  have hrep : ∀ p q v, Rep X γ w p v → PLe st kp p (PV.ren ρ q) → (∀ r ∈ q.ids, ∃ e, st' r = some e) → Rep X (reG γ st' ρ) w q v := fun p q v hp hle hi =>
    Rep.unren ho q v (hp.le h hlo hk1 hk2 _ hle) fun r hr ge hg => by obtain ⟨e, he⟩ := hi r hr; exact hid r e he ge hg
  refine ⟨⟨fun r => ?_, fun r ge e' hg he => ?_, fun r r' ge ge' b hg hg' hb hb' => ?_, fun b hb => h.asOff b (hok b (ho b hb)), fun b hb => h.lt b (hok b (ho b hb)), fun b p hb => ⟨(h.glob b p hb).1, fun hh => (h.glob b p hb).2.1 (hok b (ho b hh)), (h.glob b p hb).2.2⟩⟩, fun b hb => hok b (ho b hb), hrep⟩
  · cases hs : st' r with
    | none => unfold reG; rw [hs]; rfl
    | some e' =>
      obtain ⟨e, he, _⟩ := hst r e' hs
      unfold reG; rw [hs]
      simp only [Option.isSome_some, if_true]
      rw [h.dom, he]; rfl
  · obtain ⟨e1, he1, hg1, hk⟩ := hinv r ge hg
    obtain ⟨e, hes, hle, _, hi⟩ := hst r e' he
    have hold := h.at_ _ ge e hg1 hes
    cases e with
    | box l =>
      cases e' with
      | row _ _ _ _ _ => simp [SLe, SE.ren] at hle
      | bld _ _ _ => simp [SLe, SE.ren] at hle
      | box l' =>
        simp only [SLe, SE.ren] at hle
        obtain ⟨b, h1, ⟨T, vs, h2, h3, h4⟩ | ⟨ks, vks, ka, va, hh, f, es, clock, h2, h3, h4⟩⟩ := hold
        · refine ⟨b, h1, .inl ⟨T, vs, h2, h3, RepL.unren ho l' _ (h4.le h hlo hk1 hk2 hle) fun q hq ge hg => ?_⟩⟩
          obtain ⟨e2, he2⟩ := hi q hq
          exact hid q e2 he2 ge hg
        · subst h2
          obtain ⟨hh', f', rfl, hq⟩ := mpv_le hle
          exact ⟨b, h1, .inr ⟨ks, vks, ka, va, hh', f', es, clock, rfl, h3, h4.eq hq⟩⟩
    | row τ e z n f =>
      cases e' with
      | box _ => simp [SLe, SE.ren] at hle
      | bld _ _ _ => simp [SLe, SE.ren] at hle
      | row τ' e' z' n' f' =>
        simp only [SLe, SE.ren] at hle
        obtain ⟨ht, rfl, rfl, rfl, hrw⟩ := hle
        obtain ⟨vs, h1, h2, h2', h3, h4, h5, h6, h7⟩ := hold
        refine ⟨vs, h1, h2, h2', h3, h4, fun i hi => by rw [← hrw i hi]; exact h5 i hi, fun i hi c hc => h6 i hi c (by rw [hrw i hi]; exact hc), fun i j c u hi hc hu => ?_⟩
        rw [← hrw i hi] at hc
        have hfl := h6 i hi c (List.mem_of_getElem? hc)
        have h8 := (h7 i j c u hi hc hu).mark_up τ' (Nat.le_trans (tau_mark c _) ht)
        rw [mark_mark] at h8
        exact h8.own_less (fun b hb => hok b (ho b hb)) (flat_mark hfl _)
    | bld T t x =>
      cases e' with
      | box _ => simp [SLe, SE.ren] at hle
      | row _ _ _ _ _ => simp [SLe, SE.ren] at hle
      | bld T' t' x' =>
        simp only [SLe, SE.ren] at hle
        obtain ⟨rfl, rfl, rfl⟩ := hle
        exact hold
  · obtain ⟨e1, he1, hg1, hk⟩ := hinv r ge hg
    obtain ⟨e2, he2, hg2, hk'⟩ := hinv r' ge' hg'
    exact hinj r r' e1 e2 he1 he2 (h.inj _ _ ge ge' b hg1 hg2 hb hb')
theorem Rel.ent {ρ : Nat → Nat} {kp : Nat → Bool} (h : Rel X w0 may a w s γ) (hn : s'.n = s.n)
    (hfr : ∀ t p', s'.fr t = some p' → (∃ p, s.fr t = some p ∧ PLe s.st kp p (p'.ren ρ)) ∧ ∀ r ∈ p'.ids, ∃ e, s'.st r = some e)
    (hst : ∀ r e', s'.st r = some e' → ∃ e, s.st (ρ r) = some e ∧ SLe s.st kp e (e'.ren ρ) ∧ kp (ρ r) = true ∧ ∀ q ∈ e'.ids, ∃ e2, s'.st q = some e2)
    (hinj : ∀ r r' e e', s'.st r = some e → s'.st r' = some e' → ρ r = ρ r' → r = r') (hpar : ∀ r, r < X.np → ρ r = r ∧ ∃ e, s'.st r = some e) : ∃ γ', Rel X w0 may a w s' γ' := by
  obtain ⟨h1, h2, h3⟩ := h.st.ent h.rowLo hst hinj
  refine ⟨_, by rw [hn]; exact h.size, h.defers, fun t p' hp => ?_, h1, h.keeps, h.lo, fun r ge b hg hb => ?_, h.asLt, fun r hr => ?_, h.mayP⟩
  · obtain ⟨⟨p, hp1, hle⟩, hi⟩ := hfr t p' hp
    obtain ⟨g1, g2⟩ := h.fr t p hp1
    exact ⟨by rw [hn]; exact g1, h3 _ _ _ g2 hle hi⟩
  · have hsome : (s'.st r).isSome = true ∧ γ (ρ r) = some ge := by
      unfold reG at hg
      split at hg
      · rename_i hs; exact ⟨hs, hg⟩
      · cases hg
    obtain ⟨hs, hg2⟩ := hsome
    rcases h.own (ρ r) ge b hg2 hb with h4 | ⟨h4, ge0, h5, h6⟩
    · exact .inl h4
    · obtain ⟨k1, e1, k2⟩ := hpar (ρ r) h4
      obtain ⟨e2, he2⟩ := Option.isSome_iff_exists.1 hs
      have := hinj r (ρ r) e2 e1 he2 k2 k1.symm
      rw [← this] at h4 h5
      exact .inr ⟨h4, ge0, h5, h6⟩
  · obtain ⟨g1, g2⟩ := hpar r hr
    obtain ⟨e', he'⟩ := g2
    obtain ⟨e, hes, hle, _⟩ := hst r e' he'
    have hp := h.par r hr
    rw [g1] at hes
    rw [hes] at hp
    have hre : reG γ s'.st ρ r = γ r := by unfold reG; rw [he', g1]; rfl
    rw [he', hre]
    cases e with
    | box l =>
      cases e' with
      | box l' => exact hp
      | row _ _ _ _ _ => simp [SLe, SE.ren] at hle
      | bld _ _ _ => simp [SLe, SE.ren] at hle
    | row _ _ _ _ _ => exact hp.elim
    | bld _ _ _ =>
      cases e' with
      | box l' => simp [SLe, SE.ren] at hle
      | row _ _ _ _ _ => simp [SLe, SE.ren] at hle
      | bld _ _ _ => exact hp
mutual
theorem ren_id : ∀ (p : PV), p.ren (fun r => r) = p
  | .agg cs => by simp [PV.ren, ren_idL cs]
  | .tup cs => by simp [PV.ren, ren_idL cs]
  | .fn f a b => by simp [PV.ren, ren_idL a, ren_idL b]
  | .cnd g p => by simp [PV.ren, ren_id p]
  | .rp τ cs => rfl
  | .int k n => rfl
  | .bool b => rfl
  | .str s => rfl
  | .sl o z n f => rfl
  | .nil z => rfl
  | .os r => rfl
  | .vw h r lo n => rfl
  | .rf m r => rfl
  | .mpv _ _ _ _ _ _ => rfl
  | .pt r i j => rfl
  | .raw v => rfl
  | .junk => rfl
theorem ren_idL : ∀ (l : List PV), PV.renL (fun r => r) l = l
  | [] => rfl
  | p :: ps => by simp [PV.renL, ren_id p, ren_idL ps]
end
theorem sren_id (e : SE) : e.ren (fun r => r) = e := by cases e <;> simp [SE.ren, ren_idL]
/-! ### states written out -/
def frL : List (Nat × PV) → Nat → Option PV
  | [] => fun _ => none
  | (t, p) :: l => upd (frL l) t p
def stL : List (Nat × SE) → Nat → Option SE
  | [] => fun _ => none
  | (t, p) :: l => upd (stL l) t p
def St (n : Nat) (fl : List (Nat × PV)) (sl : List (Nat × SE)) : PS := ⟨n, frL fl, stL sl, True, fun _ => none⟩
def keysB : List (Nat × SE) → Nat → Bool
  | [], _ => false
  | (k, _) :: l, r => match Nat.beq r k with
    | true => true
    | false => keysB l r
def keysAll (sl : List (Nat × SE)) : List Nat → Bool
  | [] => true
  | r :: rs => match keysB sl r with
    | true => keysAll sl rs
    | false => false
def idsF (sl : List (Nat × SE)) : List (Nat × PV) → Bool
  | [] => true
  | (_, p) :: l => match keysAll sl p.ids with
    | true => idsF sl l
    | false => false
def idsS (sl : List (Nat × SE)) : List (Nat × SE) → Bool
  | [] => true
  | (_, e) :: l => match keysAll sl e.ids with
    | true => idsS sl l
    | false => false
def parB (sl : List (Nat × SE)) : Nat → Bool
  | 0 => true
  | n + 1 => match keysB sl n with
    | true => parB sl n
    | false => false
def leF (fr : Nat → Option PV) (st : Nat → Option SE) (kp : Nat → Bool) : List (Nat × PV) → Prop
  | [] => True
  | (t, p') :: l => (match fr t with
    | some p => PLe st kp p p'
    | none => False) ∧ leF fr st kp l
def leS (st : Nat → Option SE) (kp : Nat → Bool) : List (Nat × SE) → Prop
  | [] => True
  | (r, e') :: l => (match st r with
    | some e => SLe st kp e e'
    | none => False) ∧ leS st kp l
def Ent (np : Nat) (s : PS) (n : Nat) (fl : List (Nat × PV)) (sl : List (Nat × SE)) : Prop := match s with
  | ⟨n', fr, st, _, _⟩ => n' = n ∧ (idsF sl fl && idsS sl sl && parB sl np) = true ∧ leF fr st (keysB sl) fl ∧ leS st (keysB sl) sl
theorem keysB_some : ∀ {sl : List (Nat × SE)} {r : Nat}, keysB sl r = true ↔ ∃ e, stL sl r = some e
  | [], r => by simp [keysB, stL]
  | (k, e) :: l, r => by
    simp only [keysB, stL, upd_eq]
    by_cases h : r = k
    · subst h; simp
    · have : Nat.beq r k = false := by rw [Bool.eq_false_iff]; intro hh; exact h (Nat.eq_of_beq_eq_true hh)
      rw [this]; simp only [if_neg h]; exact keysB_some
theorem keysAll_mem {sl : List (Nat × SE)} : ∀ {l : List Nat}, keysAll sl l = true → ∀ r ∈ l, ∃ e, stL sl r = some e
  | [], h, r, hr => by simp at hr
  | x :: l, h, r, hr => by
    simp only [keysAll] at h
    split at h
    · rename_i hx
      rcases List.mem_cons.1 hr with rfl | hr
      · exact keysB_some.1 hx
      · exact keysAll_mem h r hr
    · cases h
theorem frL_mem : ∀ {fl : List (Nat × PV)} {t : Nat} {p : PV}, frL fl t = some p → (t, p) ∈ fl
  | [], t, p, h => by simp [frL] at h
  | (k, q) :: l, t, p, h => by
    simp only [frL, upd_eq] at h
    split at h
    · rename_i hk; subst hk; injection h with h; subst h; simp
    · exact List.mem_cons_of_mem _ (frL_mem h)
theorem stL_mem : ∀ {fl : List (Nat × SE)} {t : Nat} {p : SE}, stL fl t = some p → (t, p) ∈ fl
  | [], t, p, h => by simp [stL] at h
  | (k, q) :: l, t, p, h => by
    simp only [stL, upd_eq] at h
    split at h
    · rename_i hk; subst hk; injection h with h; subst h; simp
    · exact List.mem_cons_of_mem _ (stL_mem h)
theorem idsF_mem {sl : List (Nat × SE)} : ∀ {l : List (Nat × PV)}, idsF sl l = true → ∀ x ∈ l, ∀ r ∈ x.2.ids, ∃ e, stL sl r = some e
  | [], h, x, hx => by simp at hx
  | (k, p) :: l, h, x, hx => by
    simp only [idsF] at h
    split at h
    · rename_i hk
      rcases List.mem_cons.1 hx with rfl | hx
      · exact keysAll_mem hk
      · exact idsF_mem h x hx
    · cases h
theorem idsS_mem {sl : List (Nat × SE)} : ∀ {l : List (Nat × SE)}, idsS sl l = true → ∀ x ∈ l, ∀ r ∈ x.2.ids, ∃ e, stL sl r = some e
  | [], h, x, hx => by simp at hx
  | (k, p) :: l, h, x, hx => by
    simp only [idsS] at h
    split at h
    · rename_i hk
      rcases List.mem_cons.1 hx with rfl | hx
      · exact keysAll_mem hk
      · exact idsS_mem h x hx
    · cases h
theorem parB_lt {sl : List (Nat × SE)} : ∀ {n : Nat}, parB sl n = true → ∀ r, r < n → ∃ e, stL sl r = some e
  | 0, h, r, hr => by omega
  | n + 1, h, r, hr => by
    simp only [parB] at h
    split at h
    · rename_i hk
      by_cases hrn : r = n
      · subst hrn; exact keysB_some.1 hk
      · exact parB_lt h r (by omega)
    · cases h
theorem leF_mem {fr : Nat → Option PV} {st : Nat → Option SE} {kp : Nat → Bool} : ∀ {l : List (Nat × PV)}, leF fr st kp l → ∀ x ∈ l, ∃ p, fr x.1 = some p ∧ PLe st kp p x.2
  | [], h, x, hx => by simp at hx
  | (t, p') :: l, h, x, hx => by
    obtain ⟨h1, h2⟩ := h
    rcases List.mem_cons.1 hx with rfl | hx
    · split at h1
      · rename_i p hp; exact ⟨p, hp, h1⟩
      · exact h1.elim
    · exact leF_mem h2 x hx
theorem leS_mem {st : Nat → Option SE} {kp : Nat → Bool} : ∀ {l : List (Nat × SE)}, leS st kp l → ∀ x ∈ l, ∃ p, st x.1 = some p ∧ SLe st kp p x.2
  | [], h, x, hx => by simp at hx
  | (t, p') :: l, h, x, hx => by
    obtain ⟨h1, h2⟩ := h
    rcases List.mem_cons.1 hx with rfl | hx
    · split at h1
      · rename_i p hp; exact ⟨p, hp, h1⟩
      · exact h1.elim
    · exact leS_mem h2 x hx
theorem Ent.rel {n : Nat} {fl : List (Nat × PV)} {sl : List (Nat × SE)} {np : Nat} (he : Ent np s n fl sl) (hnp : X.np = np) (h : Rel X w0 may a w s γ) : ∃ γ', Rel X w0 may a w (St n fl sl) γ' := by
  obtain ⟨n', fr, st, ok, log⟩ := s
  obtain ⟨rfl, hb, hf, hs⟩ := he
  simp only [Bool.and_eq_true] at hb
  obtain ⟨⟨hb1, hb2⟩, hb3⟩ := hb
  refine Rel.ent (s' := St n' fl sl) (ρ := fun r => r) (kp := keysB sl) h rfl (fun t p' hp => ?_) (fun r e' hr => ?_) (fun r r' e e' _ _ hh => hh) (fun r hr => ⟨rfl, parB_lt hb3 r (by omega)⟩)
  · have hm := frL_mem hp
    obtain ⟨p, hp1, hle⟩ := leF_mem hf _ hm
    exact ⟨⟨p, hp1, by rw [ren_id]; exact hle⟩, idsF_mem hb1 _ hm⟩
  · have hm := stL_mem hr
    obtain ⟨e, he1, hle⟩ := leS_mem hs _ hm
    exact ⟨e, he1, by rw [sren_id]; exact hle, keysB_some.2 ⟨_, hr⟩, idsS_mem hb2 _ hm⟩
/-! ### rules -/
variable {wr : Bool} {np n : Nat} {Q : Lv → PS → Prop} {c b : C}
theorem LSem.weak {fl : List (Nat × PV)} {sl : List (Nat × SE)} (hE : Ent np s n fl sl) (h : LSem P wr np c Q (St n fl sl)) : LSem P wr np c Q s := by
  intro hQ code hc X w0 may a w γ hX hR
  obtain ⟨γ', hR'⟩ := hE.rel hX hR
  exact h hQ code hc X w0 may a w γ' hX hR'
theorem LSem.of_vc (hmix : P.follows .mixedOrders = true) (h : vc (PureCall P) (LSem P wr np) c Q s) : LSem P wr np c Q s :=
  fun hQ code hc => (vc_sound hmix c code Q s hQ hc h).2
theorem LSem.cut (hmix : P.follows .mixedOrders = true) {fl : List (Nat × PV)} {sl : List (Nat × SE)} (hE : Ent np s n fl sl) (h : vc (PureCall P) (LSem P wr np) c Q (St n fl sl)) : LSem P wr np c Q s :=
  LSem.weak hE (LSem.of_vc hmix h)
theorem LSem.meet (hmix : P.follows .mixedOrders = true) {α : Type} (I : α → Prop) (fl : α → List (Nat × PV)) (sl : α → List (Nat × SE))
    (h : vc (PureCall P) (LSem P wr np) c (fun lv s' => match lv with
      | .nrm => s'.ok ∧ ∃ x, I x ∧ Ent np s' n (fl x) (sl x)
      | .ex i => Q (.ex i) s'
      | .ret => Q .ret s') s)
    (h' : ∀ x, I x → vc (PureCall P) (LSem P wr np) b Q (St n (fl x) (sl x))) : LSem P wr np (.seq c b) Q s := by
  intro hQ code hc X w0 may a w γ hX hR
  have : ∃ p q, code = .seq p q ∧ comp P wr p = some c.er ∧ comp P wr q = some b.er := by
    cases code with
    | seq p q =>
      simp only [comp, C.er] at hc
      split at hc
      · rename_i a b ha hb
        simp only [Option.some.injEq, C.seq.injEq] at hc
        obtain ⟨rfl, rfl⟩ := hc
        exact ⟨p, q, rfl, ha, hb⟩
      · cases hc
    | region id ops dr => cases dr <;> simp only [comp, C.er] at hc <;> (repeat' (split at hc)) <;> simp_all
    | _ => simp only [comp, C.er] at hc <;> (repeat' (split at hc)) <;> simp_all
  obtain ⟨p, q, rfl, hp, hq⟩ := this
  have h1 := (vc_sound hmix c p _ s (fun lv s' hs => by
    cases lv with
    | nrm => exact hs.1
    | ex i => exact hQ _ _ hs
    | ret => exact hQ _ _ hs) hp h).2 X w0 may a w γ hX hR
  refine wp_seq (wp_mono h1 ?_)
  rintro e a' w' ⟨lv, s', γ', he, hq', hR'⟩
  cases e <;> simp only [lvOf, Option.some.injEq] at he
  · subst he
    obtain ⟨_, x, hx, hE⟩ := hq'
    obtain ⟨γ2, hR2⟩ := hE.rel hX hR'
    exact LSem.of_vc hmix (h' x hx) hQ q hq X w0 may a' w' γ2 hX hR2
  · subst he; exact ⟨_, _, _, rfl, hq', hR'⟩
  · cases he
  · subst he; exact ⟨_, _, _, rfl, hq', hR'⟩
  · cases he
  · cases he
theorem wp_loop_by {α : Type} {c : Code} {Q : Exit → Act → World → Prop} (J : α → Act → World → Prop) (μ : α → Nat) (x0 : α) (h₀ : J x0 a w)
    (round : ∀ x a w, J x a w → c.wp P (Exit.then (fun a' w' => ∃ x', J x' a' w' ∧ μ x' < μ x) Q) a w) : (Code.loop c).wp P Q a w := by
  intro b k cs
  have key : ∀ n x a w, μ x = n → J x a w →
      ∃ e a' w', Q e a' w' ∧ Arrives P (lone (b.at a (.code c :: .inLoop c :: k)) cs w) b k cs e a' w' := by
    intro n
    induction n using Nat.strongRecOn with
    | _ n ih =>
      intro x a w hn hI
      obtain ⟨e, a₁, w₁, hq, harr⟩ := round x a w hI b (.inLoop c :: k) cs
      cases e with
      | normal =>
        obtain ⟨x', hI₁, hlt⟩ := hq
        obtain ⟨e₂, a₂, w₂, hq₂, harr₂⟩ := ih (μ x') (hn ▸ hlt) x' a₁ w₁ rfl hI₁
        exact ⟨e₂, a₂, w₂, hq₂, .of_steps (Steps.trans harr (.one step_inLoop)) harr₂⟩
      | exit id => exact ⟨_, a₁, w₁, hq, .pass (x := .inLoop c) rfl (fun _ _ => .inl (by simp)) harr⟩
      | goto l => exact ⟨_, a₁, w₁, hq, .pass (x := .inLoop c) rfl (fun _ _ => .inl (by simp)) harr⟩
      | ret => exact ⟨_, a₁, w₁, hq, .pass (x := .inLoop c) rfl (fun _ _ => .inl (by simp)) harr⟩
      | panic ch => exact ⟨_, a₁, w₁, hq, .pass (x := .inLoop c) rfl (fun _ _ => .inl (by simp)) harr⟩
      | outgrown => exact ⟨_, a₁, w₁, hq, .pass (x := .inLoop c) rfl (fun _ _ => .inl (by simp)) harr⟩
  obtain ⟨e, a', w', hq, harr⟩ := key _ x0 a w rfl h₀
  exact ⟨e, a', w', hq, .of_steps (.one step_loop) harr⟩
theorem LSem.loop (hmix : P.follows .mixedOrders = true) {α : Type} (I : α → Prop) (fl : α → List (Nat × PV)) (sl : α → List (Nat × SE)) (μ : α → Nat) (x0 : α) (h0 : I x0) (hE : Ent np s n (fl x0) (sl x0))
    (hr : ∀ x, I x → vc (PureCall P) (LSem P wr np) b (fun lv s' => match lv with
      | .nrm => s'.ok ∧ ∃ x', I x' ∧ μ x' < μ x ∧ Ent np s' n (fl x') (sl x')
      | .ex i => Q (.ex i) s'
      | .ret => Q .ret s') (St n (fl x) (sl x))) : LSem P wr np (.loop b) Q s := by
  intro hQ code hc X w0 may a w γ hX hR
  have : ∃ p, code = .loop p ∧ comp P wr p = some b.er := by
    cases code with
    | loop p =>
      simp only [comp, C.er, Option.map_eq_some_iff, C.loop.injEq] at hc
      obtain ⟨b', hb, rfl⟩ := hc
      exact ⟨p, rfl, hb⟩
    | region id ops dr => cases dr <;> simp only [comp, C.er] at hc <;> (repeat' (split at hc)) <;> simp_all
    | _ => simp only [comp, C.er] at hc <;> (repeat' (split at hc)) <;> simp_all
  obtain ⟨p, rfl, hp⟩ := this
  obtain ⟨γ0, hR0⟩ := hE.rel hX hR
  refine wp_loop_by (fun x a w => I x ∧ ∃ γ, Rel X w0 may a w (St n (fl x) (sl x)) γ) μ x0 ⟨h0, γ0, hR0⟩ ?_
  rintro x a w ⟨hI, γ, hR⟩
  have h1 := (vc_sound hmix b p _ _ (fun lv s' hs => by
    cases lv with
    | nrm => exact hs.1
    | ex i => exact hQ _ _ hs
    | ret => exact hQ _ _ hs) hp (hr x hI)).2 X w0 may a w γ hX hR
  refine wp_mono h1 ?_
  rintro e a' w' ⟨lv, s', γ', he, hq', hR'⟩
  cases e <;> simp only [lvOf, Option.some.injEq] at he
  · subst he
    obtain ⟨_, x', hx', hlt, hE'⟩ := hq'
    obtain ⟨γ2, hR2⟩ := hE'.rel hX hR'
    exact ⟨x', ⟨hx', γ2, hR2⟩, hlt⟩
  · subst he; exact ⟨_, _, _, rfl, hq', hR'⟩
  · cases he
  · subst he; exact ⟨_, _, _, rfl, hq', hR'⟩
  · cases he
  · cases he
theorem LSem.adopt {fr : Nat → Option PV} {st : Nat → Option SE} {ok : Prop} {log : Nat → Option LogE} (t R : Nat) (e : TypeId) (z z' : Nat) (h1 : fr t = some (.nil z')) (h2 : st R = none)
    (h : LSem P wr np c Q ⟨n, upd fr t (.os R), upd st R (.row 0 e z 0 (fun _ => [])), ok, log⟩) : LSem P wr np c Q ⟨n, fr, st, ok, log⟩ := by
  intro hQ code hc X w0 may a w γ hX hR
  have hv := (hR.fr t _ h1).2.nil_inv
  let ge : GE := ⟨none, .slice none 0 0, z⟩
  have hE : EffOK X γ w st (Eff.pure (.os R)) (.slice none 0 0) w (upd γ R ge) (upd st R (.row 0 e z 0 (fun _ => []))) :=
    EffOK.add hR.st hR.hX h2 rfl (Keeps.refl _ _) (fun b hb => by rcases hb with hb | hb <;> cases hb) (fun _ => ⟨[], rfl, rfl, rfl, ⟨by simp, .inl ⟨rfl, rfl⟩⟩, by simp, fun i hi => by omega, fun i hi => by omega, fun i j c u hi => by omega⟩)
      (fun _ => .os R ge (upd_same _ _ _) rfl rfl)
  have hR2 : Rel X w0 may (a.put none (.slice none 0 0)) w ⟨n, fr, upd st R (.row 0 e z 0 (fun _ => [])), ok, log⟩ (upd γ R ge) :=
    hR.after (s' := ⟨n, fr, upd st R (.row 0 e z 0 (fun _ => [])), ok, log⟩) hE rfl fun t p hp => .inr ⟨by simp, p, hp, (void_nil p).symm⟩
  refine h hQ code hc X w0 may a w (upd γ R ge) hX ⟨hR2.size, hR2.defers, fun t' p hp => ?_, hR2.st, hR2.keeps, hR2.lo, hR2.own, hR2.asLt, hR2.par, hR2.mayP⟩
  simp only at hp
  by_cases ht : t' = t
  · subst ht
    rw [upd_same] at hp; injection hp with hp; subst hp
    refine ⟨(hR.fr t' _ h1).1, ?_⟩
    rw [hv]
    exact .os R ge (upd_same _ _ _) rfl rfl
  · rw [upd_ne _ _ ht] at hp; exact hR2.fr t' p hp
end
end Pv
end Go.Proofs.YtafnkpmoolbjjaaDoor
/- A FUNCTION's CONTRACT, FROM ITS BODY. -/
set_option linter.unusedSimpArgs false
set_option linter.unusedVariables false
namespace Go.Proofs.YtafnkpmoolbjjaaDoor
namespace Pv
open Go.RowKit
def argF : Nat → List PV → List (Nat × PV)
  | _, [] => []
  | k, p :: ps => (k, p) :: argF (k + 1) ps
def boxF : Nat → List SE → List (Nat × SE)
  | _, [] => []
  | k, p :: ps => (k, p) :: boxF (k + 1) ps
theorem argF_get : ∀ (l : List PV) (k t : Nat) (p : PV), frL (argF k l) t = some p → k ≤ t ∧ l[t - k]? = some p
  | [], k, t, p, h => by simp [argF, frL] at h
  | q :: l, k, t, p, h => by
    simp only [argF, frL, upd_eq] at h
    split at h
    · rename_i hk; subst hk; injection h with h; subst h; simp
    · obtain ⟨h1, h2⟩ := argF_get l (k + 1) t p h
      refine ⟨by omega, ?_⟩
      rw [show t - k = (t - (k + 1)) + 1 from by omega]; simpa using h2
theorem boxF_get : ∀ (l : List SE) (k t : Nat), stL (boxF k l) t = if k ≤ t then l[t - k]? else none
  | [], k, t => by simp [boxF, stL]
  | q :: l, k, t => by
    simp only [boxF, stL, upd_eq]
    by_cases hk : t = k
    · subst hk; simp
    · rw [if_neg hk, boxF_get l (k + 1) t]
      by_cases h1 : k + 1 ≤ t
      · rw [if_pos h1, if_pos (by omega), show t - k = (t - (k + 1)) + 1 from by omega]; simp
      · rw [if_neg h1, if_neg (by omega)]
/-! ### results -/
def reN (ids : List Nat) (r : Nat) : Nat := match Nat.ble newBase r with
  | true => ids.getD (r - newBase) 0
  | false => r
def elemB (r : Nat) : List Nat → Bool
  | [] => false
  | x :: l => match Nat.beq r x with
    | true => true
    | false => elemB r l
def kpR (np : Nat) (ids : List Nat) (r : Nat) : Bool := match Nat.blt r np with
  | true => true
  | false => elemB r ids
def noDup : List Nat → Bool
  | [] => true
  | x :: l => match elemB x l with
    | true => false
    | false => noDup l
def allGe (np : Nat) : List Nat → Bool
  | [] => true
  | x :: l => match Nat.ble np x with
    | true => allGe np l
    | false => false
def inRes (np m : Nat) : List Nat → Bool
  | [] => true
  | r :: l => match (Nat.blt r np || (Nat.ble newBase r && Nat.blt r (newBase + m))) with
    | true => inRes np m l
    | false => false
def inResS (np m : Nat) : List SE → Bool
  | [] => true
  | e :: l => match inRes np m e.ids with
    | true => inResS np m l
    | false => false
def leBox (st : Nat → Option SE) (kp : Nat → Bool) (ids : List Nat) : Nat → List SE → Prop
  | _, [] => True
  | k, e' :: l => (match st k with
    | some e => SLe st kp e (e'.ren (reN ids))
    | none => False) ∧ leBox st kp ids (k + 1) l
def leNew (st : Nat → Option SE) (kp : Nat → Bool) (all : List Nat) : List Nat → List SE → Prop
  | [], [] => True
  | i :: is, e' :: l => (match st i with
    | some e => SLe st kp e (e'.ren (reN all))
    | none => False) ∧ leNew st kp all is l
  | _, _ => False
def tupOf : List PV → PV
  | [p] => p
  | ps => .tup ps
abbrev RV := Nat × Option (Nat × Bool)
def rvVal (fr : Nat → Option PV) (st : Nat → Option SE) : RV → Option PV
  | (t, none) => fr t
  | (t, some (n, g)) => match fr t with
    | some (.pt r i j) => match st r with
      | some (.box cells) => match i, mpB cells with
        | 0, false => asV n g ((cells.drop j).take n)
        | _, _ => none
      | _ => none
    | _ => none
def rvL (fr : Nat → Option PV) (st : Nat → Option SE) : List RV → Option (List PV)
  | [] => some []
  | a :: r => match rvVal fr st a, rvL fr st r with
    | some p, some ps => some (p :: ps)
    | _, _ => none
def compR (P : Program) : ResultVar → Option RV
  | .tmp t => some (t, none)
  | .cell a t => match isAggO P t with
    | some g => some (a, some (P.cellsOf t, g))
    | none => none
def ResOK (rs : List RV) (np : Nat) (c : CallRes) (ids : List Nat) (s : PS) : Prop := match s with
  | ⟨_, fr, st, _, _⟩ => match rvL fr st rs with
    | none => False
    | some ps => (noDup ids && allGe np ids && (Nat.beq c.st.length np) && Nat.ble np newBase && inRes np c.news.length c.val.ids && inResS np c.news.length c.st && inResS np c.news.length c.news) = true ∧
      PLe st (kpR np ids) (tupOf ps) (c.val.ren (reN ids)) ∧ leBox st (kpR np ids) ids 0 c.st ∧ leNew st (kpR np ids) ids ids c.news
def Fin (rs : List RV) (np : Nat) (c : CallRes) : Lv → PS → Prop
  | .ex _, _ => False
  | .nrm, s => s.ok ∧ ∃ ids, ResOK rs np c ids s
  | .ret, s => s.ok ∧ ∃ ids, ResOK rs np c ids s
theorem elemB_iff {r : Nat} : ∀ {l : List Nat}, elemB r l = true ↔ r ∈ l
  | [] => by simp [elemB]
  | x :: l => by
    simp only [elemB, List.mem_cons]
    by_cases h : r = x
    · subst h; simp
    · have : Nat.beq r x = false := by rw [Bool.eq_false_iff]; intro hh; exact h (Nat.eq_of_beq_eq_true hh)
      rw [this]; simp only [h, false_or]; exact elemB_iff
theorem noDup_iff : ∀ {l : List Nat}, noDup l = true → l.Nodup
  | [], _ => List.nodup_nil
  | x :: l, h => by
    simp only [noDup] at h
    split at h
    · cases h
    · rename_i hx
      exact List.nodup_cons.2 ⟨fun hm => by (rw [elemB_iff.2 hm] at hx; cases hx), noDup_iff h⟩
theorem allGe_iff {np : Nat} : ∀ {l : List Nat}, allGe np l = true → ∀ r ∈ l, np ≤ r
  | [], _, r, hr => by simp at hr
  | x :: l, h, r, hr => by
    simp only [allGe] at h
    split at h
    · rename_i hx
      rcases List.mem_cons.1 hr with rfl | hr
      · exact Nat.le_of_ble_eq_true hx
      · exact allGe_iff h r hr
    · cases h
theorem inRes_iff {np m : Nat} : ∀ {l : List Nat}, inRes np m l = true → ∀ r ∈ l, r < np ∨ (newBase ≤ r ∧ r < newBase + m)
  | [], _, r, hr => by simp at hr
  | x :: l, h, r, hr => by
    simp only [inRes] at h
    split at h
    · rename_i hx
      rcases List.mem_cons.1 hr with rfl | hr
      · rw [Bool.or_eq_true, Bool.and_eq_true] at hx
        rcases hx with hx | ⟨hx, hx'⟩
        · exact .inl (by simpa [Nat.blt_eq] using hx)
        · exact .inr ⟨Nat.le_of_ble_eq_true hx, by simpa [Nat.blt_eq] using hx'⟩
      · exact inRes_iff h r hr
    · cases h
theorem inResS_iff {np m : Nat} : ∀ {l : List SE}, inResS np m l = true → ∀ e ∈ l, ∀ r ∈ e.ids, r < np ∨ (newBase ≤ r ∧ r < newBase + m)
  | [], _, r, hr => by simp at hr
  | x :: l, h, r, hr => by
    simp only [inResS] at h
    split at h
    · rename_i hx
      rcases List.mem_cons.1 hr with rfl | hr
      · exact inRes_iff hx
      · exact inResS_iff h r hr
    · cases h
theorem leBox_get {st : Nat → Option SE} {kp : Nat → Bool} {ids : List Nat} : ∀ {l : List SE} {k : Nat}, leBox st kp ids k l → ∀ (i : Nat) (e' : SE), l[i]? = some e' → ∃ e, st (k + i) = some e ∧ SLe st kp e (e'.ren (reN ids))
  | [], k, h, i, e', hi => by simp at hi
  | x :: l, k, h, i, e', hi => by
    obtain ⟨h1, h2⟩ := h
    cases i with
    | zero =>
      simp only [List.getElem?_cons_zero, Option.some.injEq] at hi; subst hi
      split at h1
      · rename_i e he; exact ⟨e, he, h1⟩
      · exact h1.elim
    | succ i =>
      obtain ⟨e, he, hle⟩ := leBox_get h2 i e' (by simpa using hi)
      exact ⟨e, by rw [show k + (i + 1) = k + 1 + i from by omega]; exact he, hle⟩
theorem leNew_get {st : Nat → Option SE} {kp : Nat → Bool} {all : List Nat} : ∀ {is : List Nat} {l : List SE}, leNew st kp all is l → is.length = l.length ∧ ∀ (i : Nat) (e' : SE), l[i]? = some e' → ∃ r e, is[i]? = some r ∧ st r = some e ∧ SLe st kp e (e'.ren (reN all))
  | [], [], h => ⟨rfl, fun i e' hi => by simp at hi⟩
  | [], _ :: _, h => by simp [leNew] at h
  | _ :: _, [], h => by simp [leNew] at h
  | r :: is, x :: l, h => by
    obtain ⟨h1, h2⟩ := h
    obtain ⟨g1, g2⟩ := leNew_get h2
    refine ⟨by simp [g1], fun i e' hi => ?_⟩
    cases i with
    | zero =>
      simp only [List.getElem?_cons_zero, Option.some.injEq] at hi; subst hi
      split at h1
      · rename_i e he; exact ⟨r, e, rfl, he, h1⟩
      · exact h1.elim
    | succ i =>
      obtain ⟨r', e, k1, k2, k3⟩ := g2 i e' (by simpa using hi)
      exact ⟨r', e, by simpa using k1, k2, k3⟩
section
variable {P : Program} {wr : Bool}
def rvRun (tmps : Array Value) : ResultVar → Sem Value
  | .tmp t => pure (tmps.getD t undef)
  | .cell a t => do loadVar t (← asAddr (tmps.getD a undef))
theorem run_result {X : Cx} {γ : Gh} {w : World} {fr : Nat → Option PV} {st : Nat → Option SE} (hst : RepSt X γ w st) {tmps : Array Value} (hfr : ∀ t p, fr t = some p → Rep X γ w p (tmps.getD t undef)) {r : ResultVar} {v : RV} {p : PV}
    (hv : compR P r = some v) (hp : rvVal fr st v = some p) :
    ∃ u, (rvRun tmps r).run P w = .ok u w ∧ Rep X γ w p u := by
  cases r with
  | tmp t =>
    simp only [compR, Option.some.injEq] at hv; subst hv
    exact ⟨_, rfl, hfr t p hp⟩
  | cell a t =>
    simp only [compR] at hv
    split at hv
    · rename_i g hg
      injection hv with hv; subst hv
      simp only [rvVal] at hp
      split at hp
      · rename_i r i j hr
        split at hp
        · rename_i cells hc
          split at hp
          · rename_i hmp
            have hu := hfr a _ hr
            obtain ⟨v, h1, h2⟩ := ld_box_sound hst hg hu hc ⟨rfl, hmp⟩ hp
            refine ⟨v, ?_, h2⟩
            obtain ⟨ge, b, _, _, he⟩ := pt_inv hu
            show Sem.run P (do loadVar t (← asAddr (tmps.getD a undef))) w = _
            rw [he] at h1 ⊢
            simpa [Instr.loadAt, Instr.sureAddr, asAddr] using h1
          · cases hp
        · cases hp
      · cases hp
    · cases hv
theorem mapM_run {α : Type} {w : World} (g : α → Sem Value) : ∀ (l : List α) (us : List Value), us.length = l.length → (∀ (k : Nat) (x : α) (u : Value), l[k]? = some x → us[k]? = some u → (g x).run P w = .ok u w) → (List.mapM g l).run P w = .ok us w
  | [], us, hl, h => by
    have : us = [] := List.eq_nil_of_length_eq_zero hl
    subst this; rfl
  | x :: l, us, hl, h => by
    cases us with
    | nil => simp at hl
    | cons u us =>
      have h1 := h 0 x u rfl rfl
      have h2 := mapM_run g l us (by simpa using hl) (fun k y v hk hv => h (k + 1) y v (by simpa using hk) (by simpa using hv))
      rw [List.mapM_cons]
      simp [h1, h2]
theorem run_results {X : Cx} {γ : Gh} {w : World} {fr : Nat → Option PV} {st : Nat → Option SE} (hst : RepSt X γ w st) {tmps : Array Value} (hfr : ∀ t p, fr t = some p → Rep X γ w p (tmps.getD t undef)) {fn : Func} {rs : List RV} {ps : List PV}
    (hv : mapO (compR P) fn.results.toList = some rs) (hp : rvL fr st rs = some ps) : ∃ v, (results fn tmps).run P w = .ok v w ∧ Rep X γ w (tupOf ps) v := by
  have hall : ∀ (l : List ResultVar) (rs : List RV) (ps : List PV), mapO (compR P) l = some rs → rvL fr st rs = some ps → ∃ us : List Value, RepL X γ w ps us ∧ us.length = l.length ∧ ∀ (k : Nat) (x : ResultVar) (u : Value), l[k]? = some x → us[k]? = some u → (rvRun tmps x).run P w = .ok u w := by
    intro l
    induction l with
    | nil =>
      intro rs ps h1 h2
      simp only [mapO, Option.some.injEq] at h1; subst h1
      simp only [rvL, Option.some.injEq] at h2; subst h2
      exact ⟨[], RepL.nil_, rfl, fun k x u hk => by simp at hk⟩
    | cons x l ih =>
      intro rs ps h1 h2
      simp only [mapO] at h1
      split at h1
      · rename_i b bs hb hbs
        injection h1 with h1; subst h1
        simp only [rvL] at h2
        split at h2
        · rename_i q qs hq hqs
          injection h2 with h2; subst h2
          obtain ⟨u, hu1, hu2⟩ := run_result (P := P) hst hfr hb hq
          obtain ⟨us, g1, g2, g3⟩ := ih bs qs hbs hqs
          refine ⟨u :: us, RepL.cons_ hu2 g1, by simp [g2], fun k y v hk hv => ?_⟩
          cases k with
          | zero => simp only [List.getElem?_cons_zero, Option.some.injEq] at hk hv; subst hk; subst hv; exact hu1
          | succ k => exact g3 k y v (by simpa using hk) (by simpa using hv)
        · cases h2
      · cases h1
  obtain ⟨us, h1, h2, h3⟩ := hall _ rs ps hv hp
  have h4 := mapM_run (P := P) (w := w) _ _ us h2 h3
  have hl := h1.1
  refine ⟨if h : us.toArray.size = 1 then us.toArray[0] else .tuple us.toArray, ?_, ?_⟩
  · have hres : results fn tmps = (do let vs ← fn.results.mapM (rvRun tmps); pure (if h : vs.size = 1 then vs[0] else .tuple vs)) := by
      unfold results
      have : (fun (x : ResultVar) => match x with
        | .tmp t => (pure (tmps.getD t undef) : Sem Value)
        | .cell a t => do loadVar t (← asAddr (tmps.getD a undef))) = rvRun tmps := by funext x; cases x <;> rfl
      rw [← this]
      rfl
    have e : fn.results = fn.results.toList.toArray := by simp
    rw [hres, e, List.mapM_toArray]
    simp [h4]
  · match ps, us, hl, h1 with
    | [], [], _, h1 => exact .tup _ _ h1.1 h1.2
    | [p], [u], _, h1 =>
      obtain ⟨_, _, hu, hr, _⟩ := h1.cons_inv
      simp only [List.cons.injEq] at hu
      simp only [tupOf]
      rw [hu.1]; exact hr
    | p :: q :: ps, t :: u :: us, _, h1 => exact .tup _ _ h1.1 h1.2
def fits (P : Program) (wr : Bool) (fn : Func) (nargs n : Nat) (rs : List RV) : Option C :=
  match fn.body, mapO (compR P) fn.results.toList with
  | some code, some rs' => if rs' = rs ∧ nargs + (fn.ntmps - nargs) = n ∧ (fn.name == "runtime.NumGoroutine") = false then comp P wr code else none
  | _, _ => none
def okBs (bs : List SE) : Bool := !(bs.any SE.isRow) || Nat.beq (nbx bs) 0
theorem okBs_iff {bs : List SE} (h : okBs bs = true) : bs.any SE.isRow = false ∨ (nbx bs) = 0 := by
  unfold okBs at h
  rw [Bool.or_eq_true] at h
  exact h.imp (fun h => by simpa using h) (fun h => Nat.eq_of_beq_eq_true h)
theorem pure_call {f : FuncId} {fn : Func} {cc : C} {args : List PV} {bs : List SE} {c : CallRes} {rs : List RV} {n : Nat} (hmix : P.follows .mixedOrders = true)
    (hf : P.funcs[f]? = some fn) (hfits : fits P wr fn args.length n rs = some cc.er) (hbox : okBs bs = true)
    (h : vc (PureCall P) (LSem P wr (nbx bs)) cc (Fin rs (nbx bs) c) (St n (argF 0 args) (boxF 0 bs))) : PureCall P f args bs c := by
  have hparts : ∃ code, fn.body = some code ∧ mapO (compR P) fn.results.toList = some rs ∧ args.length + (fn.ntmps - args.length) = n ∧ (fn.name == "runtime.NumGoroutine") = false ∧ comp P wr code = some cc.er := by
    unfold fits at hfits
    split at hfits
    · rename_i code rs' h1 h2
      split at hfits
      · rename_i hc
        obtain ⟨rfl, hc2, hc3⟩ := hc
        exact ⟨code, h1, h2, hc2, hc3, hfits⟩
      · cases hfits
    · cases hfits
  obtain ⟨code, hb, hres, hn, hnm, hcomp⟩ := hparts
  refine ⟨⟨fn, hf, by rw [hb]; rfl, hnm⟩, ?_⟩
  intro w γ aas ls vals hst hX hargs
  refine calls_of_wp hf hb ?_
  have hsz : vals.toArray.size = args.length := by simpa using hargs.1
  have hR : Rel ⟨w.heap.size, aas, ls, (nbx bs), γ⟩ w γ.own { tmps := vals.toArray ++ Array.replicate (fn.ntmps - vals.toArray.size) undef, defers := [] } w (St n (argF 0 args) (boxF 0 bs)) γ := by
    have hstf : (fun r => bs[r]?) = stL (boxF 0 bs) := by funext r; rw [boxF_get]; simp
    have hltb : ∀ r ge, γ r = some ge → r < bs.length := fun r ge hr => by
      have hd := hst.dom r
      rw [hr] at hd
      obtain ⟨e, he⟩ := Option.isSome_iff_exists.1 hd.symm
      exact (List.getElem?_eq_some_iff.1 he).1
    refine ⟨by simp only [Array.size_append, Array.size_replicate, hsz, St]; exact hn, rfl, fun t p hp => ?_, by rw [hstf] at hst; exact hst, Keeps.refl _ _, rfl, fun r ge b hr hb => (okBs_iff hbox).elim (fun h => .inr ⟨by rw [nbx_rows h]; exact hltb r ge hr, ge, hr, hb⟩) (fun h => .inl (.inr ⟨h, r, ge, hr, hb⟩)), fun b hb => ⟨hX b hb, fun ho => ?_⟩, fun r hr => ?_, fun r ge b hr hg hb => ⟨r, ge, hg, hb⟩⟩
    · obtain ⟨_, h1⟩ := argF_get args 0 t p hp
      rw [Nat.sub_zero] at h1
      have hlt := (List.getElem?_eq_some_iff.1 h1).1
      obtain ⟨u, hu, hr⟩ := hargs.at h1
      refine ⟨by simp only [St]; omega, ?_⟩
      have : (vals.toArray ++ Array.replicate (fn.ntmps - vals.toArray.size) undef).getD t undef = u := by
        have ht : t < vals.length := by rw [hargs.1]; exact hlt
        rw [Array.getD_eq_getD_getElem?, Array.getElem?_append_left (by simpa using ht)]
        simp [hu]
      simp only [this]; exact hr
    · obtain ⟨h1, h2⟩ := hst.asOff b ho
      exact hb.elim h1 h2
    · have hbox' : bs.any SE.isRow = false := (okBs_iff hbox).elim id fun h => by
        have hr' : r < (nbx bs) := hr
        omega
      have hr : r < bs.length := by rw [← nbx_rows hbox']; exact hr
      have h1 : bs[r]? = some (bs[r]'hr) := List.getElem?_eq_getElem hr
      have h2 := List.any_eq_false.1 hbox' (bs[r]'hr) (List.getElem_mem hr)
      simp only [St, boxF_get, Nat.zero_le, if_true, Nat.sub_zero, h1]
      cases hc : bs[r] with
      | box l => rfl
      | row _ _ _ _ _ => rw [hc] at h2; simp [SE.isRow] at h2
      | bld _ _ _ =>
        have hd := hst.dom r
        rw [h1] at hd
        obtain ⟨ge, hge⟩ := Option.isSome_iff_exists.1 hd
        exact ⟨ge, ge, hge, hge, rfl, rfl⟩
  have hfinOk : ∀ lv s, Fin rs (nbx bs) c lv s → s.ok := fun lv s hs => by cases lv <;> first | exact hs.1 | exact hs.elim
  refine wp_mono ((vc_sound hmix cc code _ _ hfinOk hcomp h).2 _ _ _ _ _ _ rfl hR) ?_
  rintro e a' w' ⟨lv, s', γ', he, hq, hR'⟩
  have key : (∃ ids, ResOK rs (nbx bs) c ids s') → a'.defers = [] ∧ ∃ v, (results fn a'.tmps).run P w' = .ok v w' ∧ ∃ v' γ', Ending.returned v = .returned v' ∧ Rep ⟨w.heap.size, aas, ls, (nbx bs), γ⟩ γ' w' c.val v' ∧ RepSt ⟨w.heap.size, aas, ls, (nbx bs), γ⟩ γ' w' (resSt c) ∧
      Keeps γ.own w w' ∧ (∀ r, r < (nbx bs) → ParOK (γ' r) (γ r) (resSt c r)) ∧ (∀ r ge b, γ' r = some ge → ge.has b → w.heap.size ≤ b ∨ ((nbx bs) = 0 ∧ γ.own b) ∨ ∃ ge0, γ r = some ge0 ∧ ge0.has b) := by
    rintro ⟨ids, hro⟩
    obtain ⟨n', fr, st, ok, log⟩ := s'
    simp only [ResOK] at hro
    split at hro
    · exact hro.elim
    · rename_i ps hps
      obtain ⟨vv, hrun, hrv⟩ := run_results (P := P) (tmps := a'.tmps) hR'.st (fun t p hp => (hR'.fr t p hp).2) hres hps
      refine ⟨hR'.defers, vv, hrun, ?_⟩
      obtain ⟨hbool, hval, hbx, hnw⟩ := hro
      simp only [Bool.and_eq_true] at hbool
      obtain ⟨⟨⟨⟨⟨⟨b1, b2⟩, b3⟩, b4⟩, b5⟩, b6⟩, b7⟩ := hbool
      have d1 := noDup_iff b1
      have d2 := allGe_iff b2
      have d3 := Nat.eq_of_beq_eq_true b3
      have d4 := Nat.le_of_ble_eq_true b4
      obtain ⟨d5, d6⟩ := leNew_get hnw
      have hdom : ∀ r, (r < (nbx bs) ∨ (newBase ≤ r ∧ r < newBase + c.news.length)) → ∃ e, resSt c r = some e := fun r hr => by
        unfold resSt
        rcases hr with hr | ⟨hr, hr'⟩
        · rw [if_neg (by omega)]; exact ⟨_, List.getElem?_eq_getElem (by omega)⟩
        · rw [if_pos hr]; exact ⟨_, List.getElem?_eq_getElem (by omega)⟩
      have hre1 : ∀ r, newBase ≤ r → reN ids r = ids.getD (r - newBase) 0 := fun r hr => by unfold reN; rw [Nat.ble_eq_true_of_le hr]
      have hre2 : ∀ r, r < newBase → reN ids r = r := fun r hr => by
        unfold reN
        have : Nat.ble newBase r = false := by rw [Bool.eq_false_iff]; intro hh; have := Nat.le_of_ble_eq_true hh; omega
        rw [this]
      have hcases : ∀ r e', resSt c r = some e' → (r < (nbx bs) ∧ c.st[r]? = some e' ∧ reN ids r = r) ∨ (newBase ≤ r ∧ c.news[r - newBase]? = some e' ∧ ids[r - newBase]? = some (reN ids r)) := fun r e' hr => by
        unfold resSt at hr
        split at hr
        · rename_i hb
          right
          refine ⟨hb, hr, ?_⟩
          have hlt := (List.getElem?_eq_some_iff.1 hr).1
          rw [hre1 r hb]
          have : r - newBase < ids.length := by omega
          simp [List.getD_eq_getElem?_getD, this]
        · rename_i hb
          left
          exact ⟨by rw [← d3]; exact (List.getElem?_eq_some_iff.1 hr).1, hr, hre2 r (by omega)⟩
      have hcl : ∀ e', (e' ∈ c.st ∨ e' ∈ c.news) → ∀ q ∈ e'.ids, ∃ e2, resSt c q = some e2 := fun e' hm q hq => by
        rcases hm with hm | hm
        · exact hdom q (inResS_iff b6 e' hm q hq)
        · exact hdom q (inResS_iff b7 e' hm q hq)
      have hmem : ∀ k r, ids[k]? = some r → elemB r ids = true := fun k r hk => elemB_iff.2 (List.mem_of_getElem? hk)
      obtain ⟨h1, h2, h3⟩ := hR'.st.ent (st' := resSt c) (ρ := reN ids) (kp := kpR (nbx bs) ids) hR'.rowLo (fun r e' hr => by
          rcases hcases r e' hr with ⟨k1, k2, k3⟩ | ⟨k1, k2, k3⟩
          · obtain ⟨e, g1, g2⟩ := leBox_get hbx r e' k2
            rw [Nat.zero_add] at g1
            refine ⟨e, by rw [k3]; exact g1, g2, ?_, hcl e' (.inl (List.mem_of_getElem? k2))⟩
            rw [k3]; unfold kpR
            have : Nat.blt r (nbx bs) = true := by rw [Nat.blt_eq]; exact k1
            rw [this]
          · obtain ⟨r', e, g1, g2, g3⟩ := d6 _ e' k2
            rw [k3] at g1; injection g1 with g1; subst g1
            refine ⟨e, g2, g3, ?_, hcl e' (.inr (List.mem_of_getElem? k2))⟩
            unfold kpR
            split
            · rfl
            · exact hmem _ _ k3)
        (fun r r' e e' hr hr' hh => by
          rcases hcases r e hr with ⟨k1, k2, k3⟩ | ⟨k1, k2, k3⟩ <;> rcases hcases r' e' hr' with ⟨k1', k2', k3'⟩ | ⟨k1', k2', k3'⟩
          · omega
          · have := d2 _ (List.mem_of_getElem? k3'); omega
          · have := d2 _ (List.mem_of_getElem? k3); omega
          · have hi := (List.getElem?_inj (List.getElem?_eq_some_iff.1 k3).1 d1).1 (k3.trans (by rw [hh]; exact k3'.symm))
            omega)
      refine ⟨_, _, rfl, h3 _ _ _ hrv hval (fun r hr => hdom r (inRes_iff b5 r hr)), h1, hR'.keeps, fun r hr => ?_, fun r ge b hg hb => ?_⟩
      · obtain ⟨e', he'⟩ := hdom r (.inl hr)
        have hp := hR'.par r hr
        have hre : reG γ' (resSt c) (reN ids) r = γ' r := by unfold reG; rw [he', hre2 r (by omega)]; rfl
        rw [he', hre]
        rcases hcases r e' he' with ⟨k1, k2, k3⟩ | ⟨k1, _, _⟩
        · obtain ⟨e, g1, g2⟩ := leBox_get hbx r e' k2
          rw [Nat.zero_add] at g1
          replace hp : ParOK (γ' r) (γ r) (some e) := by rw [← g1]; exact hp
          cases e with
          | box l =>
            cases e' with
            | box l' => exact hp
            | row _ _ _ _ _ => simp [SLe, SE.ren] at g2
            | bld _ _ _ => simp [SLe, SE.ren] at g2
          | row _ _ _ _ _ => exact hp.elim
          | bld _ _ _ =>
            cases e' with
            | box l' => simp [SLe, SE.ren] at g2
            | row _ _ _ _ _ => simp [SLe, SE.ren] at g2
            | bld _ _ _ => exact hp
        · omega
      · have hsome : (∃ e', resSt c r = some e') ∧ γ' (reN ids r) = some ge := by
          unfold reG at hg
          split at hg
          · rename_i hs; exact ⟨Option.isSome_iff_exists.1 hs, hg⟩
          · cases hg
        obtain ⟨⟨e', he'⟩, hg2⟩ := hsome
        rcases hR'.own (reN ids r) ge b hg2 hb with (h | ⟨h0, r0, g0, h1, h2⟩) | ⟨h4, ge0, h5, h6⟩
        · exact .inl h
        · exact .inr (.inl ⟨h0, r0, g0, h1, h2⟩)
        · rcases hcases r e' he' with ⟨k1, k2, k3⟩ | ⟨k1, k2, k3⟩
          · rw [k3] at h5; exact .inr (.inr ⟨ge0, h5, h6⟩)
          · have := d2 _ (List.mem_of_getElem? k3)
            have h4' : reN ids r < (nbx bs) := h4
            omega
  cases e <;> simp only [lvOf, Option.some.injEq] at he
  · subst he; exact key hq.2
  · subst he; exact hq.elim
  · cases he
  · subst he; exact key hq.2
  · cases he
  · cases he
end
end Pv
end Go.Proofs.YtafnkpmoolbjjaaDoor
set_option linter.unusedSimpArgs false
set_option linter.unusedVariables false
namespace Go.Proofs.YtafnkpmoolbjjaaDoor
namespace Pv
def mx (a b : Int) : Int := if b > a then b else a
def mn (a b : Int) : Int := if b < a then b else a
theorem mx_eq (a b : Int) : mx a b = max a b := by unfold mx; split <;> omega
theorem mn_eq (a b : Int) : mn a b = min a b := by unfold mn; split <;> omega
theorem inR64 (n : Int) : inR .i64 n ↔ -9223372036854775808 ≤ n ∧ n ≤ 9223372036854775807 := by
  unfold inR; simp [IntKind.min, IntKind.max, IntKind.signed, IntKind.bits]
theorem inR64_of {n : Int} (h1 : -9223372036854775808 ≤ n) (h2 : n ≤ 9223372036854775807) : inR .i64 n := (inR64 n).2 ⟨h1, h2⟩
theorem mul_rng {a b A B : Int} (h0 : 0 ≤ a) (h1 : a ≤ A) (h2 : 0 ≤ b) (h3 : b ≤ B) : 0 ≤ a * b ∧ a * b ≤ A * B :=
  ⟨Int.mul_nonneg h0 h2, Int.mul_le_mul h1 h3 h2 (by omega)⟩
def fl {α : Type} [Inhabited α] (e : α → List PV) (l : List α) : Nat → List PV := fun i => e (l.getD i default)
theorem fl_append {α : Type} [Inhabited α] (e : α → List PV) (l l' : List α) : RowEq (l.length + l'.length) (appF l.length (fl e l) (fl e l')) (fl e (l ++ l')) := fun i hi => by
  unfold appF fl
  split
  · rename_i h; rw [List.getD_eq_getElem?_getD, List.getD_eq_getElem?_getD, List.getElem?_append_left h]
  · rename_i h; rw [List.getD_eq_getElem?_getD, List.getD_eq_getElem?_getD, List.getElem?_append_right (by omega)]
theorem fl_push {α : Type} [Inhabited α] (e : α → List PV) (l : List α) (x : α) : RowEq (l.length + 1) (appF l.length (fl e l) (fun i => [e x].getD i [])) (fl e (l ++ [x])) := fun i hi => by
  have := fl_append e l [x] i (by simpa using hi)
  rw [← this]
  unfold appF
  split
  · rfl
  · rename_i h
    have : i - l.length = 0 := by omega
    simp [this, fl]
theorem leF_cons {fr : Nat → Option PV} {st : Nat → Option SE} {kp : Nat → Bool} {t : Nat} {p p' : PV} {l : List (Nat × PV)} (h : fr t = some p) (h1 : PLe st kp p p') (h2 : leF fr st kp l) : leF fr st kp ((t, p') :: l) :=
  ⟨by rw [h]; exact h1, h2⟩
theorem leS_cons {st : Nat → Option SE} {kp : Nat → Bool} {t : Nat} {p p' : SE} {l : List (Nat × SE)} (h : st t = some p) (h1 : SLe st kp p p') (h2 : leS st kp l) : leS st kp ((t, p') :: l) :=
  ⟨by rw [h]; exact h1, h2⟩
theorem getD_mem {α : Type} [Inhabited α] {l : List α} {i : Nat} (h : i < l.length) : l.getD i default ∈ l := by
  rw [List.getD_eq_getElem?_getD, List.getElem?_eq_getElem h]; exact List.getElem_mem h
theorem getD_some {α : Type} [Inhabited α] {l : List α} {i : Nat} (h : i < l.length) : l[i]? = some (l.getD i default) := by
  rw [List.getD_eq_getElem?_getD, List.getElem?_eq_getElem h]; rfl
theorem PureCall.arg_le {P : Program} {f : FuncId} {args args' : List PV} {bs : List SE} {c : CallRes} (h : PureCall P f args' bs c) (hb : bs.any SE.isRow = false) (hl : PLeL (fun r => bs[r]?) (fun _ => true) args args') : PureCall P f args bs c := by
  refine ⟨h.1, fun w γ aas ls vals hst hX ha => h.2 w γ aas ls vals hst hX ?_⟩
  refine ha.le hst (fun r ge b τ e z n f hr hs hbk => ?_) (fun r ge hr _ => hr) (fun r ge hr => ⟨hr, rfl⟩) hl
  have := List.any_eq_false.1 hb _ (List.mem_of_getElem? hs)
  simp [SE.isRow] at this
def scan (f : Nat → Int) : Nat → Nat → Int
  | _, 0 => 0
  | i, n + 1 => if f i ≠ 0 then f i else scan f (i + 1) n
theorem scan_zero {f : Nat → Int} : ∀ {i n : Nat}, scan f i n = 0 → ∀ k, i ≤ k → k < i + n → f k = 0
  | i, 0, _, k, h1, h2 => by omega
  | i, n + 1, h, k, h1, h2 => by
    simp only [scan] at h
    split at h
    · rename_i hf; exact absurd h hf
    · rename_i hf
      by_cases hk : k = i
      · subst hk; exact Classical.not_not.1 hf
      · exact scan_zero h k (by omega) (by omega)
theorem scan_hit {f : Nat → Int} {i n : Nat} (hn : 0 < n) (h : f i ≠ 0) : scan f i n = f i := by
  cases n with
  | zero => omega
  | succ n => simp [scan, h]
theorem scan_step {f : Nat → Int} {i n : Nat} (hn : 0 < n) (h : f i = 0) : scan f i n = scan f (i + 1) (n - 1) := by
  cases n with
  | zero => omega
  | succ n => simp [scan, h]
theorem rowEq0 (f f' : Nat → List PV) : RowEq 0 f f' := fun i hi => absurd hi (Nat.not_lt_zero i)
theorem maxLen_ge {n : Nat} (h : n ≤ 4611686018427387904) : n ≤ maxLen := Nat.le_trans h (by decide)
theorem dec_iff {p : Prop} [Decidable p] {b : Bool} (h : decide p = b) : if b then p else ¬ p := by
  cases b <;> simpa using h
end Pv
end Go.Proofs.YtafnkpmoolbjjaaDoor
