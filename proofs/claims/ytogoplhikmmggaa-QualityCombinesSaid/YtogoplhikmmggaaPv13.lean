/- CALLS, SECOND PART: what comes back. -/
import Derived.Test.YtogoplhikmmggaaPv12
set_option linter.unusedSimpArgs false
set_option linter.unusedVariables false
namespace Go.Proofs.Ytogoplhikmmggaa
namespace Pv
open Go.RowKit

theorem wrS_other : ∀ (l : List (Nat × SE)) (st : Nat → Option SE) (r : Nat), (∀ x ∈ l, x.1 ≠ r) → wrS l st r = st r
  | [], st, r, h => rfl
  | (k, e) :: l, st, r, h => by
    simp only [wrS]
    rw [wrS_other l _ r (fun x hx => h x (by simp [hx])), upd_ne st e (by have := h (k, e) (by simp); simp only at this; exact fun hh => this hh.symm)]
theorem wrS_at : ∀ (l : List (Nat × SE)) (st : Nat → Option SE) (r : Nat) (e : SE), (l.map (·.1)).Nodup → (r, e) ∈ l → wrS l st r = some e
  | [], st, r, e, hn, h => by simp at h
  | (k, e') :: l, st, r, e, hn, h => by
    simp only [List.map_cons, List.nodup_cons] at hn
    simp only [wrS]
    rcases List.mem_cons.1 h with h | h
    · injection h with h1 h2; subst h1; subst h2
      rw [wrS_other l _ r (fun x hx hh => hn.1 (List.mem_map.2 ⟨x, hx, hh⟩)), upd_same]
    · exact wrS_at l _ r e hn.2 h
theorem nwS_get : ∀ (es : List SE) (d : Nat) (st st' : Nat → Option SE), nwS d es st = some st' → (∀ k e, es[k]? = some e → st' (d + k) = some e ∧ st (d + k) = none) ∧ ∀ r, (r < d ∨ d + es.length ≤ r) → st' r = st r
  | [], d, st, st', h => by simp only [nwS, Option.some.injEq] at h; subst h; exact ⟨fun k e hk => by simp at hk, fun _ _ => rfl⟩
  | e :: es, d, st, st', h => by
    simp only [nwS] at h
    split at h
    · rename_i hd
      obtain ⟨h1, h2⟩ := nwS_get es (d + 1) _ st' h
      refine ⟨fun k x hk => ?_, fun r hr => ?_⟩
      · cases k with
        | zero =>
          simp only [List.getElem?_cons_zero, Option.some.injEq] at hk; subst hk
          refine ⟨?_, hd⟩
          rw [Nat.add_zero, h2 d (.inl (by omega)), upd_same]
        | succ k =>
          obtain ⟨h3, h4⟩ := h1 k x (by simpa using hk)
          have e1 : d + 1 + k = d + (k + 1) := by omega
          rw [e1] at h3 h4
          rw [upd_ne st e (by omega)] at h4
          exact ⟨h3, h4⟩
      · simp only [List.length_cons] at hr
        rw [h2 r (by omega), upd_ne st e (by omega)]
    · cases h

theorem renL_get (ρ : Nat → Nat) : ∀ (cs : List PV) (i : Nat), (PV.renL ρ cs)[i]? = (cs[i]?).map (PV.ren ρ)
  | [], i => by simp [PV.renL]
  | c :: cs, 0 => by simp [PV.renL]
  | c :: cs, i + 1 => by simpa [PV.renL] using renL_get ρ cs i
theorem renL_length (ρ : Nat → Nat) : ∀ (cs : List PV), (PV.renL ρ cs).length = cs.length
  | [] => rfl
  | c :: cs => by simp [PV.renL, renL_length ρ cs]
theorem flat_ren {c : PV} (h : c.flat = true) (ρ : Nat → Nat) (τ : Nat) : (c.mark τ).ren ρ = c.mark τ := by
  cases c with
  | fn f a b => obtain ⟨rfl, rfl⟩ := flat_fn h; rfl
  | _ => first | rfl | (simp [PV.flat] at h)
theorem freshL_get : ∀ {l : List PV} {k : Nat} {c : PV}, PV.freshL l = true → l[k]? = some c → c.freshB = true
  | [], k, c, h, hk => by simp at hk
  | p :: ps, k, c, h, hk => by
    simp only [PV.freshL, Bool.and_eq_true] at h
    cases k with
    | zero => simp only [List.getElem?_cons_zero, Option.some.injEq] at hk; subst hk; exact h.1
    | succ k => exact freshL_get h.2 (by simpa using hk)
theorem fresh_mark {c : PV} (h : c.flat = true) {τ : Nat} (ht : τ ≤ 1) : (c.mark τ).freshB = true := by
  cases c with
  | fn f a b => obtain ⟨rfl, rfl⟩ := flat_fn h; rfl
  | _ => first | rfl | (simp [PV.flat] at h; done) | simpa [PV.mark, PV.freshB] using ht

section
variable {P : Program} {X X' : Cx} {γ γ' : Gh} {w w' : World} {st st' : Nat → Option SE}

theorem Rep.back {nr : Bool} {ρ : Nat → Nat} {p : PV} {v : Value} (h : Rep X' γ' w p v) (hγ : ∀ r ge, γ' r = some ge → γ (ρ r) = some ge)
    (hl : ∀ τ b, (nr = true ∨ τ ≤ 1) → b < w.heap.size → mayLie X' γ' τ b → mayLie X γ τ b) : (nr = true ∨ p.freshB = true) → Rep X γ w (p.ren ρ) v := by
  induction h with
  | int k n => intro _; exact .int k n
  | bool b => intro _; exact .bool b
  | str s => intro _; exact .str s
  | agg cs vs hvl hc h ih =>
    intro hf
    refine .agg _ _ (by rw [renL_length]; exact hvl) hc fun k c u hk hu => ?_
    rw [renL_get] at hk
    obtain ⟨c0, h0, rfl⟩ := Option.map_eq_some_iff.1 hk
    exact ih k c0 u h0 hu (hf.imp id fun hf => freshL_get hf h0)
  | tup cs vs hvl h ih =>
    intro hf
    refine .tup _ _ (by rw [renL_length]; exact hvl) fun k c u hk hu => ?_
    rw [renL_get] at hk
    obtain ⟨c0, h0, rfl⟩ := Option.map_eq_some_iff.1 hk
    exact ih k c0 u h0 hu (hf.imp id fun hf => freshL_get hf h0)
  | sl τ z n f ad cap vs hcap hz hff hb h ih =>
    intro hf
    have hf' : nr = true ∨ τ ≤ 1 := hf.imp id fun hf => by simpa [PV.freshB] using hf
    refine .sl τ z n f ad cap vs hcap hz hff (fun hn => ?_) (fun i j c hi hc => ?_)
    · obtain ⟨a, rfl, hm, hlt, hc⟩ := hb hn
      exact ⟨a, rfl, hl _ _ hf' hlt hm, hlt, hc⟩
    · have hfl := hff i hi c (List.mem_of_getElem? hc)
      have := ih i j c hi hc (hf'.imp id fun ht => fresh_mark hfl ht)
      rwa [flat_ren hfl] at this
  | nil z => intro _; exact .nil z
  | os r ge hg h1 => intro _; exact .os _ ge (hγ r ge hg) h1
  | vw h r lo n ge ad m cap hg hh hle h0 => intro _; exact .vw h _ lo n ge ad m cap (hγ r ge hg) hh hle h0
  | pt r i j ge b hg hb => intro _; exact .pt _ i j ge b (hγ r ge hg) hb
  | rp τ cs a vs hff hb hc h ih =>
    intro hf
    have hf' : nr = true ∨ τ ≤ 1 := hf.imp id fun hf => by simpa [PV.freshB] using hf
    refine .rp τ cs a vs hff (fun hn => ?_) hc (fun k c hk => ?_)
    · obtain ⟨hm, hlt⟩ := hb hn
      exact ⟨hl _ _ hf' hlt hm, hlt⟩
    · have hfl := hff c (List.mem_of_getElem? hk)
      have := ih k c hk (hf'.imp id fun ht => fresh_mark hfl ht)
      rwa [flat_ren hfl] at this
  | fn f first caps vs us hvl hul h h' ih ih' =>
    intro hf
    have hf1 : nr = true ∨ (PV.freshL first = true ∧ PV.freshL caps = true) := hf.imp id fun hf => by simpa [PV.freshB] using hf
    refine .fn _ _ _ _ _ (by rw [renL_length]; exact hvl) (by rw [renL_length]; exact hul) (fun k c u hk hu => ?_) (fun k c u hk hu => ?_)
    · rw [renL_get] at hk
      obtain ⟨c0, h0, rfl⟩ := Option.map_eq_some_iff.1 hk
      exact ih k c0 u h0 hu (hf1.imp id fun hf => freshL_get hf.1 h0)
    · rw [renL_get] at hk
      obtain ⟨c0, h0, rfl⟩ := Option.map_eq_some_iff.1 hk
      exact ih' k c0 u h0 hu (hf1.imp id fun hf => freshL_get hf.2 h0)
  | raw v h1 => intro _; exact .raw v h1
  | cnd g p v h hu ih =>
    intro hf
    rcases hf with hf | hf
    · exact .cnd g _ v (fun hg => ih hg (.inl hf)) hu
    · simp [PV.freshB] at hf
  | junk v => intro _; exact .junk v

theorem RepS.back {nr : Bool} {ρ : Nat → Nat} {ge : GE} {e : SE} (h : RepS X' γ' w ge e) (hγ : ∀ r ge, γ' r = some ge → γ (ρ r) = some ge)
    (hl : ∀ τ b, (nr = true ∨ τ ≤ 1) → b < w.heap.size → mayLie X' γ' τ b → mayLie X γ τ b) (hf : nr = true ∨ e.freshB = true) : RepS X γ w ge (e.ren ρ) := by
  cases e with
  | box l =>
    obtain ⟨b, T, vs, h1, h2, h3, h4, h5⟩ := h
    refine ⟨b, T, vs, h1, h2, h3, by rw [renL_length]; exact h4, fun k c u hk hu => ?_⟩
    rw [renL_get] at hk
    obtain ⟨c0, h0, rfl⟩ := Option.map_eq_some_iff.1 hk
    exact (h5 k c0 u h0 hu).back hγ hl (hf.imp id fun hf => freshL_get hf h0)
  | row τ e z n f =>
    obtain ⟨vs, h1, h2, h2', h3, h4, h5, h6, h7⟩ := h
    have hf' : nr = true ∨ τ ≤ 1 := hf.imp id fun hf => by simpa [SE.freshB] using hf
    refine ⟨vs, h1, h2, h2', h3, h4, h5, h6, fun i j c u hi hc hu => ?_⟩
    have hfl := h6 i hi c (List.mem_of_getElem? hc)
    have := (h7 i j c u hi hc hu).back hγ hl (hf'.imp id fun ht => fresh_mark hfl ht)
    rwa [flat_ren hfl] at this

/-- A call by contract. -/
theorem call_sound {f : PV} {args : List PV} {ids : List Nat} {cs : List SE} {c : CallRes} {E : Eff} {d : Nat} {fv : Value} {avs : List Value} (hst : RepSt X γ w st) (hX : ∀ b, X.as b ∨ X.ls b → b < w.heap.size) (hlo : X.lo ≤ w.heap.size)
    (hf : Rep X γ w f fv) (ha : RepL X γ w args avs) (hn : ids.Nodup) (hg : getL st ids = some cs) (hE : callV (PureCall P) d c f args ids cs = some E) (hs : allP E.side) (hnew : newSt d E.kill E.rm E.wr E.nw st = some st') :
    ∃ id first caps, fv = .func (.func id) first caps ∧ (∃ fn, P.funcs[id]? = some fn ∧ fn.body.isSome = true ∧ (fn.name == "runtime.NumGoroutine") = false) ∧
      Calls P id ((first ++ avs.toArray) ++ caps) w fun e w' => ∃ v γ'', e = .returned v ∧ EffOK X γ w st E v w' γ'' st' := by
  unfold callV callA at hE
  cases f with
  | fn fk first caps =>
    cases fk with
    | func id =>
      cases hf with
      | fn _ _ _ fvs cvs hfl hcl hfr hcr =>
      simp only at hE
      cases hla : lendL ids cs (first ++ args ++ caps) with
      | none => rw [hla] at hE; cases hE
      | some args' =>
      cases hbs : boxesOf ids cs with
      | none => rw [hla, hbs] at hE; cases hE
      | some bs =>
      rw [hla, hbs] at hE
      simp only at hE
      split at hE
      · rename_i hcond
        obtain ⟨_, hc1, hc2, hc3, hc4⟩ := hcond
        injection hE with hE; subst hE
        obtain ⟨hpc, _⟩ := hs
        obtain ⟨hfn, hcall⟩ := hpc
        refine ⟨id, _, _, rfl, hfn, ?_⟩
        -- the callee's view
        let γc : Gh := fun k => if k < bs.length then (bs[k]?).bind (fun x => γ x.1) else none
        let as' : Nat → Prop := fun b => b < w.heap.size ∧ mayLie X γ 1 b
        let ls' : Nat → Prop := fun b => b < w.heap.size ∧ ((∃ τ, mayLie X γ τ b) ∨ ∃ r ge τ e z n f, r ∈ ids ∧ γ r = some ge ∧ st r = some (.row τ e z n f) ∧ ge.blk = some b)
        let X' : Cx := ⟨w.heap.size, as', ls', (bs.map (·.2)).length, γc⟩
        have hblen : (bs.map (·.2)).length = bs.length := by simp
        have hγc : ∀ k r e, bs[k]? = some (r, e) → γc k = γ r := fun k r e hk => by
          have : k < bs.length := (List.getElem?_eq_some_iff.1 hk).1
          show (if k < bs.length then (bs[k]?).bind (fun x => γ x.1) else none) = _
          rw [if_pos this, hk]; rfl
        have hγc' : ∀ k ge, γc k = some ge → ∃ r e, bs[k]? = some (r, e) ∧ γ r = some ge := fun k ge hk => by
          by_cases hlt : k < bs.length
          · have hb : bs[k]? = some (bs[k].1, bs[k].2) := List.getElem?_eq_getElem hlt
            exact ⟨_, _, hb, by rw [← hγc k _ _ hb]; exact hk⟩
          · simp [γc, hlt] at hk
        have hcown : ∀ b, γc.own b → ∃ r ge, r ∈ ids ∧ (∃ l, st r = some (.box l)) ∧ γ r = some ge ∧ ge.blk = some b := fun b ⟨k, ge, hk, hb⟩ => by
          obtain ⟨r, e, hbk, hr⟩ := hγc' k ge hk
          obtain ⟨h1, l, l', h2, _, _⟩ := boxesOf_get hg hbs k r e hbk
          exact ⟨r, ge, h1, ⟨l, h2⟩, hr, hb⟩
        have hcown' : ∀ b, γc.own b → γ.own b := fun b hb => by
          obtain ⟨r, ge, _, _, h1, h2⟩ := hcown b hb; exact ⟨r, ge, h1, h2⟩
        have hL : Lent X X' γ γc w := ⟨fun b hb hm => ⟨fun ho => hm.1 (hcown' b ho), .inr (.inl ⟨Nat.le_refl _, hb, hm⟩)⟩,
          fun τ b hb hm => ⟨fun ho => hm.1 (hcown' b ho), .inr (.inr ⟨Nat.le_refl _, hb, .inl ⟨τ, hm⟩⟩)⟩⟩
        have hrowb : ∀ r ge τ e z n f, r ∈ ids → γ r = some ge → st r = some (.row τ e z n f) → ∀ b, ge.blk = some b → ¬ γc.own b := fun r ge τ e z n f hr hge hsr b hb ho => by
          obtain ⟨r', ge', _, ⟨l, hl⟩, h1, h2⟩ := hcown b ho
          have := hst.inj r r' ge ge' b hge h1 hb h2
          subst this
          rw [hsr] at hl; cases hl
        have hrow : ∀ r ge τ e z n f, r ∈ ids → γ r = some ge → st r = some (.row τ e z n f) → ∀ b, ge.blk = some b → mayLie X' γc 2 b := fun r ge τ e z n f hr hge hsr b hb =>
          ⟨hrowb r ge τ e z n f hr hge hsr b hb, .inr (.inr ⟨Nat.le_refl _, hst.lt b ⟨r, ge, hge, hb⟩, .inr ⟨r, ge, τ, e, z, n, f, hr, hge, hsr, hb⟩⟩)⟩
        have hargs : RepL X' γc w args' ((fvs ++ avs) ++ cvs) := lendL_sound hst hg hbs hL hγc hrow ((RepL.append ⟨hfl, hfr⟩ ha).append ⟨hcl, hcr⟩) hla
        have hstc : RepSt X' γc w (fun r => (bs.map (·.2))[r]?) := by
          refine ⟨fun r => ?_, fun r ge e hgr her => ?_, fun r r' ge ge' b hgr hgr' hb hb' => ?_, fun b hb => ⟨fun ha => ?_, fun ha => ?_⟩, fun b hb => hst.lt b (hcown' b hb)⟩
          · by_cases hlt : r < bs.length
            · have hb : bs[r]? = some (bs[r].1, bs[r].2) := List.getElem?_eq_getElem hlt
              obtain ⟨_, l, l', h2, _, _⟩ := boxesOf_get hg hbs r _ _ hb
              have hd := hst.dom bs[r].1
              rw [h2] at hd
              rw [hγc r _ _ hb, hd]
              simp [hlt]
            · simp [γc, hlt]
          · obtain ⟨r0, e0, hbk, hr0⟩ := hγc' r ge hgr
            simp only [List.getElem?_map, hbk, Option.map_some, Option.some.injEq] at her
            subst her
            obtain ⟨_, l, l', h2, h3, rfl⟩ := boxesOf_get hg hbs r r0 _ hbk
            obtain ⟨b, T, vs, k1, k2, k3, k4⟩ := hst.at_ r0 ge _ hr0 h2
            exact ⟨b, T, vs, k1, k2, k3, lendCells_sound hL k4 h3⟩
          · obtain ⟨r0, e0, hbk, hr0⟩ := hγc' r ge hgr
            obtain ⟨r1, e1, hbk1, hr1⟩ := hγc' r' ge' hgr'
            have hrr := hst.inj r0 r1 ge ge' b hr0 hr1 hb hb'
            subst hrr
            have hnd := boxesOf_nodup hg hn hbs
            have q1 : (bs.map (·.1))[r]? = some r0 := by simp [hbk]
            have q2 : (bs.map (·.1))[r']? = some r0 := by simp [hbk1]
            exact (List.getElem?_inj (by rw [List.length_map]; exact (List.getElem?_eq_some_iff.1 hbk).1) hnd).1 (q1.trans q2.symm)
          · exact ha.2.1 (hcown' b hb)
          · rcases ha.2 with ⟨τ, hm⟩ | ⟨r, ge, τ, e, z, n, f, hr, hge, hsr, hb'⟩
            · exact hm.1 (hcown' b hb)
            · exact hrowb r ge τ e z n f hr hge hsr b hb' hb
        have hvals : ((fvs.toArray ++ avs.toArray) ++ cvs.toArray) = ((fvs ++ avs) ++ cvs).toArray := by simp
        rw [hvals]
        refine (hcall w γc as' ls' _ hstc (fun b hb => hb.elim (fun h => h.1) (fun h => h.1)) hargs).mono ?_
        rintro e w' ⟨v, γ', he, hval, hst', hk, hpar, hown'⟩
        -- back
        let nr : Bool := !cs.any SE.isRow
        let ρ := backName bs d
        let γ'' : Gh := fun r => if d ≤ r ∧ r < d + c.news.length then γ' (newBase + (r - d)) else γ r
        simp only [newSt_eq, voidS_nil, rmS_nil] at hnew
        obtain ⟨hnw1, hnw2⟩ := nwS_get _ _ _ _ hnew
        have hids1 : ∀ k r e, bs[k]? = some (r, e) → ∃ ge, γ r = some ge := fun k r e hk => by
          obtain ⟨_, l, l', h2, _, _⟩ := boxesOf_get hg hbs k r e hk
          have := hst.dom r
          rw [h2] at this
          exact Option.isSome_iff_exists.1 this
        have hwrd : ((((bs.map (·.1)).zip (c.st.map (SE.ren ρ))).map (·.1))).Nodup := by
          rw [List.map_fst_zip (by simp [hc1])]
          exact boxesOf_nodup hg hn hbs
        have hwrn : ∀ r, st r = none → wrS ((bs.map (·.1)).zip (c.st.map (SE.ren ρ))) st r = none := fun r hr => by
          rw [wrS_other _ _ _ (fun x hx hxr => ?_)]
          · exact hr
          · have hm := (List.of_mem_zip hx).1
            obtain ⟨⟨r0, e0⟩, hm0, hr0⟩ := List.mem_map.1 hm
            obtain ⟨k, hk'⟩ := List.getElem?_of_mem hm0
            obtain ⟨_, l, l', h2, _, _⟩ := boxesOf_get hg hbs k r0 e0 hk'
            simp only at hr0
            rw [hr0, hxr, hr] at h2; cases h2
        have hnewn : ∀ k, k < c.news.length → st (d + k) = none := fun k hk' => by
          have hk2 : (c.news.map (SE.ren ρ))[k]? = some ((c.news.map (SE.ren ρ))[k]'(by simpa using hk')) := List.getElem?_eq_getElem (by simpa using hk')
          have h1 := (hnw1 k _ hk2).2
          cases hs : st (d + k) with
          | none => rfl
          | some e0 =>
            -- an entry that is there stays there when boxes are written
            exfalso
            by_cases hin : ∃ x ∈ (bs.map (·.1)).zip (c.st.map (SE.ren ρ)), x.1 = d + k
            · obtain ⟨⟨x1, x2⟩, hx, hx1⟩ := hin
              simp only at hx1; subst hx1
              rw [wrS_at _ _ _ _ hwrd hx] at h1; cases h1
            · rw [wrS_other _ _ _ (fun x hx hxr => hin ⟨x, hx, hxr⟩), hs] at h1; cases h1
        have hγn : ∀ k, k < c.news.length → γ (d + k) = none := fun k hk' => by
          have := hst.dom (d + k)
          rw [hnewn k hk'] at this
          cases hgd : γ (d + k) with
          | none => rfl
          | some _ => rw [hgd] at this; cases this
        have hold : ∀ r ge, γ r = some ge → γ'' r = some ge := fun r ge hr => by
          by_cases hin : d ≤ r ∧ r < d + c.news.length
          · have := hγn (r - d) (by omega)
            rw [show d + (r - d) = r from by omega, hr] at this; cases this
          · simp only [γ'', hin, if_false, hr]
        have hdom' : ∀ r, (γ' r).isSome = (resSt c r).isSome := hst'.dom
        have hback : ∀ r ge, γ' r = some ge → γ'' (ρ r) = some ge := fun r ge hr => by
          have hd := hdom' r
          rw [hr] at hd
          unfold resSt at hd
          by_cases hnb : newBase ≤ r
          · rw [if_pos hnb] at hd
            have hlt : r - newBase < c.news.length := by
              rcases Nat.lt_or_ge (r - newBase) c.news.length with h | h
              · exact h
              · rw [List.getElem?_eq_none h] at hd; cases hd
            have hρ : ρ r = d + (r - newBase) := by simp [ρ, backName, hnb]
            rw [hρ]
            have hin : d ≤ d + (r - newBase) ∧ d + (r - newBase) < d + c.news.length := by omega
            simp only [γ'', hin, and_self, if_true]
            rw [show newBase + (d + (r - newBase) - d) = r from by omega]
            exact hr
          · rw [if_neg hnb] at hd
            have hlt : r < bs.length := by
              rw [← hc1]
              rcases Nat.lt_or_ge r c.st.length with h | h
              · exact h
              · rw [List.getElem?_eq_none h] at hd; cases hd
            have hb : bs[r]? = some (bs[r].1, bs[r].2) := List.getElem?_eq_getElem hlt
            have hρ : ρ r = bs[r].1 := by simp [ρ, backName, hnb, hlt]
            rw [hρ]
            refine hold _ _ ?_
            rw [← hγc r _ _ hb, ← hpar r (by rw [hblen]; exact hlt)]
            exact hr
        have hown'' : ∀ b, γ''.own b → γ.own b ∨ γ'.own b := fun b ⟨r, ge, hr, hb⟩ => by
          by_cases hin : d ≤ r ∧ r < d + c.news.length
          · simp only [γ'', hin, and_self, if_true] at hr; exact .inr ⟨_, ge, hr, hb⟩
          · simp only [γ'', hin, if_false] at hr; exact .inl ⟨r, ge, hr, hb⟩
        have hown3 : ∀ b, γ''.own b → γ.own b ∨ w.heap.size ≤ b := fun b hb => (hown'' b hb).elim .inl fun h => (hown' b h).imp (hcown' b) (fun h => h)
        have hlie : ∀ τ b, (nr = true ∨ τ ≤ 1) → b < w'.heap.size → mayLie X' γ' τ b → mayLie X γ'' τ b := fun τ b hnr hbl hm => by
          obtain ⟨hm1, hm2⟩ := hm
          rcases hm2 with hm2 | ⟨ht, hb1, hm2⟩ | ⟨ht, hb1, hm2⟩
          · exact ⟨fun ho => (hown'' b ho).elim (fun h => absurd (hst.lt b h) (Nat.not_lt.2 hm2)) hm1, .inl (Nat.le_trans hlo hm2)⟩
          · exact ⟨fun ho => (hown'' b ho).elim hm2.1 hm1, (hm2.mono ht).2⟩
          · rcases hm2 with ⟨τ', hm2⟩ | ⟨r, ge, τ0, e0, z0, n0, f0, hr, hge, hsr, hb⟩
            · refine ⟨fun ho => (hown'' b ho).elim hm2.1 hm1, ?_⟩
              rcases hm2.2 with h | ⟨h1, h2⟩ | ⟨h1, h2⟩
              · exact .inl h
              · exact .inr (.inl ⟨by omega, h2⟩)
              · exact .inr (.inr ⟨ht, h2⟩)
            · rcases hnr with hnr | hnr
              · exfalso
                obtain ⟨e1, he1, he2⟩ := getL_mem ids cs hg r hr
                rw [hsr] at he1; injection he1 with he1; subst he1
                have : cs.any SE.isRow = true := List.any_eq_true.2 ⟨_, he2, rfl⟩
                simp [nr, this] at hnr
              · omega
        have hfr : ∀ {q : Prop}, (cs.any SE.isRow = true → q) → nr = true ∨ q := fun {q} hq => by
          cases hh : cs.any SE.isRow with
          | false => left; simp [nr, hh]
          | true => exact .inr (hq hh)
        have hmono : ∀ p u, Rep X γ w p u → Rep X γ'' w' p u := fun p u h => h.mono hold hown3 hk.size (fun b hb hlt => hk.block b hlt (fun ho => hb (hcown' b ho)))
        refine ⟨v, γ'', he, ⟨?_, fun p u h => by rw [void_nil]; exact hmono p u h, ?_, hk.mono (fun b _ h => hcown' b h), hown3, fun r l hr => ?_⟩⟩
        · exact hval.back hback hlie (hfr fun h => (hc4 h).1)
        · have hstat : ∀ r, (∃ k e, c.news[k]? = some e ∧ r = d + k ∧ st' r = some (e.ren ρ) ∧ γ'' r = γ' (newBase + k)) ∨ (∃ (k r0 : Nat) (e0 e : SE), bs[k]? = some (r0, e0) ∧ c.st[k]? = some e ∧ r = r0 ∧ st' r = some (e.ren ρ) ∧ γ'' r = γ' k) ∨ (st' r = st r ∧ γ'' r = γ r ∧ ∀ (k r0 : Nat) (e0 : SE), bs[k]? = some (r0, e0) → r ≠ r0) := fun r => by
            by_cases hin : d ≤ r ∧ r < d + c.news.length
            · left
              have hlt : r - d < c.news.length := by omega
              have hk2 : (c.news.map (SE.ren ρ))[r - d]? = some (c.news[r - d].ren ρ) := by simp [hlt]
              refine ⟨r - d, c.news[r - d], List.getElem?_eq_getElem hlt, by omega, ?_, ?_⟩
              · have := (hnw1 _ _ hk2).1
                rwa [show d + (r - d) = r from by omega] at this
              · simp only [γ'', hin, and_self, if_true]
            · right
              have hs1 : st' r = wrS ((bs.map (·.1)).zip (c.st.map (SE.ren ρ))) st r := hnw2 r (by rw [List.length_map]; omega)
              have hg1 : γ'' r = γ r := by simp only [γ'', hin, if_false]
              by_cases hb : ∃ (k r0 : Nat) (e0 : SE), bs[k]? = some (r0, e0) ∧ r = r0
              · left
                obtain ⟨k, r0, e0, hbk, rfl⟩ := hb
                have hlt : k < c.st.length := by rw [hc1]; exact (List.getElem?_eq_some_iff.1 hbk).1
                refine ⟨k, r, e0, c.st[k], hbk, List.getElem?_eq_getElem hlt, rfl, ?_, ?_⟩
                · rw [hs1]
                  refine wrS_at _ _ _ _ hwrd (List.mem_of_getElem? (i := k) ?_)
                  rw [List.getElem?_zip_eq_some]
                  exact ⟨by simp [hbk], by simp [hlt]⟩
                · rw [hg1, ← hγc k _ _ hbk, hpar k (by rw [hblen]; exact (List.getElem?_eq_some_iff.1 hbk).1)]
              · right
                refine ⟨?_, hg1, fun k r0 e0 hbk hr => hb ⟨k, r0, e0, hbk, hr⟩⟩
                rw [hs1, wrS_other _ _ _ (fun x hx hxr => ?_)]
                obtain ⟨⟨r0, e0⟩, hm0, hr0⟩ := List.mem_map.1 (List.of_mem_zip hx).1
                obtain ⟨k, hk'⟩ := List.getElem?_of_mem hm0
                exact hb ⟨k, r0, e0, hk', by rw [← hxr]; exact hr0.symm⟩
          have hnews : ∀ k e, c.news[k]? = some e → resSt c (newBase + k) = some e := fun k e hk' => by
            unfold resSt; rw [if_pos (by omega), show newBase + k - newBase = k from by omega]; exact hk'
          have hres : ∀ k e, k < bs.length → c.st[k]? = some e → resSt c k = some e := fun k e hlt hk' => by
            unfold resSt; rw [if_neg (by omega)]; exact hk'
          refine ⟨fun r => ?_, fun r ge e hgr her => ?_, fun r r' ge ge' b hgr hgr' hb hb' => ?_, fun b hb => ?_, fun b hb => ?_⟩
          · rcases hstat r with ⟨k, e, h1, h2, h3, h4⟩ | ⟨k, r0, e0, e, h1, h2, h3, h4, h5⟩ | ⟨h1, h2, h3⟩
            · rw [h3, h4, hdom', hnews k e h1]; rfl
            · rw [h4, h5, hdom', hres k e (List.getElem?_eq_some_iff.1 h1).1 h2]; rfl
            · rw [h1, h2]; exact hst.dom r
          · rcases hstat r with ⟨k, e', h1, h2, h3, h4⟩ | ⟨k, r0, e0, e', h1, h2, h3, h4, h5⟩ | ⟨h1, h2, h3⟩
            · rw [h3] at her; injection her with her; subst her
              rw [h4] at hgr
              refine (hst'.at_ _ ge e' hgr (hnews k e' h1)).back hback hlie (hfr fun h => ?_)
              exact List.all_eq_true.1 (hc4 h).2.2 e' (List.mem_of_getElem? h1)
            · rw [h4] at her; injection her with her; subst her
              rw [h5] at hgr
              refine (hst'.at_ _ ge e' hgr (hres k e' (List.getElem?_eq_some_iff.1 h1).1 h2)).back hback hlie (hfr fun h => ?_)
              exact List.all_eq_true.1 (hc4 h).2.1 e' (List.mem_of_getElem? h2)
            · rw [h1] at her; rw [h2] at hgr
              refine (hst.at_ r ge e hgr her).mono hmono fun b hb => hk.block b (hst.lt b ⟨r, ge, hgr, hb⟩) (fun ho => ?_)
              obtain ⟨k, ge1, hk1, hb1⟩ := ho
              obtain ⟨r1, e1, hbk, hr1⟩ := hγc' k ge1 hk1
              exact h3 k r1 e1 hbk (hst.inj r r1 ge ge1 b hgr hr1 hb hb1)
          · -- the callee's name of an entry
            have hcal : ∀ r ge, γ'' r = some ge → (∃ k, γ' k = some ge ∧ ρ k = r) ∨ (γ r = some ge ∧ (∀ (k r0 : Nat) (e0 : SE), bs[k]? = some (r0, e0) → r ≠ r0)) := fun r ge hr => by
              rcases hstat r with ⟨k, e', h1, h2, h3, h4⟩ | ⟨k, r0, e0, e', h1, h2, h3, h4, h5⟩ | ⟨h1, h2, h3⟩
              · left; refine ⟨newBase + k, by rw [← h4]; exact hr, ?_⟩
                simp only [ρ, backName]; rw [if_pos (by omega), h2]; omega
              · left; refine ⟨k, by rw [← h5]; exact hr, ?_⟩
                have hlt := (List.getElem?_eq_some_iff.1 h1).1
                simp only [ρ, backName]; rw [if_neg (by omega), h1, h3]; rfl
              · right; exact ⟨by rw [← h2]; exact hr, h3⟩
            have hmix : ∀ r r' ge ge' k, γ' k = some ge → ρ k = r → γ r' = some ge' → (∀ (k r0 : Nat) (e0 : SE), bs[k]? = some (r0, e0) → r' ≠ r0) → ge.blk = some b → ge'.blk = some b → False := fun r r' ge ge' k h1 h2 h3 h4 h5 h6 => by
              have hlt := hst.lt b ⟨r', ge', h3, h6⟩
              rcases hown' b ⟨k, ge, h1, h5⟩ with ⟨k1, ge1, hk1, hb1⟩ | hge1
              · obtain ⟨r1, e1, hbk, hr1⟩ := hγc' k1 ge1 hk1
                exact h4 k1 r1 e1 hbk (hst.inj r' r1 ge' ge1 b h3 hr1 h6 hb1)
              · omega
            rcases hcal r ge hgr with ⟨k, h1, h2⟩ | ⟨h1, h2⟩
            · rcases hcal r' ge' hgr' with ⟨k', h1', h2'⟩ | ⟨h1', h2'⟩
              · rw [← h2, ← h2', hst'.inj k k' ge ge' b h1 h1' hb hb']
              · exact (hmix r r' ge ge' k h1 h2 h1' h2' hb hb').elim
            · rcases hcal r' ge' hgr' with ⟨k', h1', h2'⟩ | ⟨h1', h2'⟩
              · exact (hmix r' r ge' ge k' h1' h2' h1 h2 hb' hb).elim
              · exact hst.inj r r' ge ge' b h1 h1' hb hb'
          · rcases hown3 b hb with h | h
            · exact hst.asOff b h
            · exact ⟨fun ha => by have := hX b (.inl ha); omega, fun ha => by have := hX b (.inr ha); omega⟩
          · rcases hown'' b hb with h | h
            · exact Nat.lt_of_lt_of_le (hst.lt b h) hk.size
            · exact hst'.lt b h
        · have hgr : ∃ ge, γ r = some ge := by
            have := hst.dom r
            rw [hr] at this
            exact Option.isSome_iff_exists.1 this
          obtain ⟨ge, hge⟩ := hgr
          refine ⟨by rw [hold r ge hge, hge], ?_⟩
          have hin : ¬ (d ≤ r ∧ r < d + c.news.length) := fun hin => by
            have := hγn (r - d) (by omega)
            rw [show d + (r - d) = r from by omega, hge] at this; cases this
          rw [hnw2 r (by rw [List.length_map]; omega)]
          by_cases hx : ∃ x ∈ (bs.map (·.1)).zip (c.st.map (SE.ren ρ)), x.1 = r
          · obtain ⟨⟨x1, x2⟩, hx, hx1⟩ := hx
            simp only at hx1; subst hx1
            rw [wrS_at _ _ _ _ hwrd hx]
            obtain ⟨e0, he0, rfl⟩ := List.mem_map.1 (List.of_mem_zip hx).2
            have : e0.isRow = false := by
              have := List.any_eq_false.1 hc2 e0 he0
              simpa using this
            cases e0 with
            | box l' => exact ⟨_, rfl⟩
            | row τ e z n f => simp [SE.isRow] at this
          · exact ⟨l, by rw [wrS_other _ _ _ (fun x hx' hxr => hx ⟨x, hx', hxr⟩)]; exact hr⟩
      · cases hE
    | _ => simp at hE
  | _ => simp at hE
end
end Pv
end Go.Proofs.Ytogoplhikmmggaa
