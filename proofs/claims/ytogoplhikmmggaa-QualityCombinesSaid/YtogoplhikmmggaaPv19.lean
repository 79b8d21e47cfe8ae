/- CODE: what 'vc' asks for is enough. -/
import Derived.Test.YtogoplhikmmggaaPv18
import Derived.Scope
set_option linter.unusedSimpArgs false
set_option linter.unusedVariables false
namespace Go.Proofs.Ytogoplhikmmggaa
namespace Pv
open Go.RowKit

section
variable {S : FuncId → List PV → List SE → CallRes → Prop}

abbrev Any : FuncId → List PV → List SE → CallRes → Prop := fun _ _ _ _ => True

theorem eff_nocall {S S' : FuncId → List PV → List SE → CallRes → Prop} {c : CallRes} {d : Nat} {i : I} {vs : List PV} {ids : List Nat} {cs : List SE} (h : i.isCall = false) : eff S c d i vs ids cs = eff S' c d i vs ids cs := by
  cases i <;> first | rfl | simp [I.isCall] at h

theorem stepI_nocall {S' : FuncId → List PV → List SE → CallRes → Prop} {lg : Bool} {c : CallRes} {i : Nat} {o : Ins} {s : PS} (h : o.i.isCall = false) : stepI S lg c i o s = stepI S' lg c i o s := by
  obtain ⟨n, fr, st, ok, log⟩ := s
  obtain ⟨od, oid, og, oi⟩ := o
  unfold stepI
  simp only [eff_nocall (S := S) (S' := S') h]

theorem okG_false : ∀ (l l' : List Prop) (ok : Prop), l.length = l'.length → okG false ok l = okG false ok l'
  | [], [], ok, h => rfl
  | [], _ :: _, ok, h => by simp at h
  | _ :: _, [], ok, h => by simp at h
  | p :: l, q :: l', ok, h => by
    simp only [okG]
    have : (ok ∧ (false = true → p)) = (ok ∧ (false = true → q)) := by apply propext; simp
    rw [this]
    exact okG_false l l' _ (by simpa using h)

theorem stepI_call {lg : Bool} {c : CallRes} {i : Nat} {o : Ins} {s : PS} {G : Bool} {f : FuncId} {a : List PV} {b : List SE} (hc : o.i.isCall = true) (hat : callAt o s = some (G, f, a, b)) (hS : G = true → S f a b c) : stepI S lg c i o s = stepI Any lg c i o s := by
  obtain ⟨n, fr, st, ok, log⟩ := s
  obtain ⟨od, oid, og, oi⟩ := o
  cases oi with
  | call cf xs =>
    unfold callAt at hat
    simp only at hat
    split at hat
    · cases hat
    · rename_i G' hG
      split at hat
      · cases hat
      · rename_i vs0 hvs
        split at hat
        · cases hat
        · rename_i f0 args hst
          split at hat
          · cases hat
          · rename_i cs hcs
            split at hat
            · rename_i id args' bs hca
              simp only [norm_someL, snorm_someL, Option.some.injEq, Prod.mk.injEq] at hat
              obtain ⟨rfl, rfl, rfl, rfl⟩ := hat
              rcases hss : stripS G' vs0 with ⟨sd, vs⟩
              rw [hss] at hst hcs hca
              simp only at hst hcs hca
              subst hst
              cases G' with
              | true =>
                have he : ∀ d, eff S c d (.call cf xs) (f0 :: args) ((I.call cf xs).acc (f0 :: args)) cs = eff Any c d (.call cf xs) (f0 :: args) ((I.call cf xs).acc (f0 :: args)) cs := fun d => by
                  simp only [eff, eCall, callV, hca]
                  have : S id args' (bs.map (·.2)) c = True := eq_true (hS rfl)
                  simp only [this]
                unfold stepI
                simp only [hG, hvs, stripI, hss, hcs, he]
              | false =>
                cases og with
                | none => simp [guardV] at hG
                | some g =>
                  unfold stepI
                  simp only [hG, hvs, stripI, hss, hcs, eff, eCall, callV, hca]
                  split
                  · rename_i h1
                    split at h1
                    · cases h1
                    · rename_i hn; simp only [if_neg hn]
                  · rename_i val side wr nw kill rm h1
                    split at h1
                    · rename_i hcond
                      simp only [Option.some.injEq, Eff.mk.injEq] at h1
                      obtain ⟨rfl, rfl, rfl, rfl, rfl, rfl⟩ := h1
                      simp only [if_pos hcond]
                      rw [okG_false (sd ++ [S id args' (bs.map (·.2)) c]) (sd ++ [True]) ok (by simp)]
                    · cases h1
            · cases hat
  | _ => simp [I.isCall] at hc

theorem stepX_nocall {S' : FuncId → List PV → List SE → CallRes → Prop} {lg : Bool} {c : CallRes} {i : Nat} {o : Ins} {s : PS} (h : o.i.isCall = false) : stepX S lg c i o s = stepX S' lg c i o s := by
  cases lg with
  | true => simp only [stepX]; exact stepI_nocall h
  | false =>
    obtain ⟨od, oid, og, oi⟩ := o
    obtain ⟨n, fr, st, ok, log⟩ := s
    simp only [stepX, stepG]
    cases og with
    | none => simp only [stepI_nocall (S := S) (S' := S') (lg := false) (c := c) (i := i) (o := ⟨od, oid, none, oi⟩) h]
    | some g =>
      have e1 := stepI_nocall (S := S) (S' := S') (lg := false) (c := c) (i := i) (o := ⟨od, oid, some g, oi⟩) (s := ⟨n, fr, st, ok, log⟩) h
      have e2 := stepI_nocall (S := S) (S' := S') (lg := false) (c := c) (i := i) (o := ⟨od, oid, none, oi⟩) (s := ⟨n, fr, st, ok, log⟩) h
      cases oi.heavy with
      | true => simp only [e2]
      | false =>
        cases skipJ ⟨od, oid, some g, oi⟩ ⟨n, fr, st, ok, log⟩ with
        | true => rfl
        | false =>
          simp only
          rw [e1]
          simp only [e2]
theorem stepX_call {lg : Bool} {c : CallRes} {i : Nat} {o : Ins} {s : PS} {G : Bool} {f : FuncId} {a : List PV} {b : List SE} (hc : o.i.isCall = true) (hat : callAt o s = some (G, f, a, b)) (hS : G = true → S f a b c) : stepX S lg c i o s = stepX Any lg c i o s := by
  cases lg with
  | true => simp only [stepX]; exact stepI_call hc hat hS
  | false =>
    have hh : o.i.heavy = false := by
      obtain ⟨od, oid, og, oi⟩ := o
      cases oi <;> simp [I.isCall] at hc <;> rfl
    have e := stepI_call (lg := false) (i := i) hc hat hS
    obtain ⟨od, oid, og, oi⟩ := o
    obtain ⟨n, fr, st, ok, log⟩ := s
    simp only [stepX, stepG]
    simp only at hh
    rw [hh]
    cases og with
    | none => exact e
    | some g =>
      cases skipJ ⟨od, oid, some g, oi⟩ ⟨n, fr, st, ok, log⟩ with
      | true => rfl
      | false =>
        simp only
        rw [e]
        split
        · rfl
        · split
          · rename_i hgv
            have hat2 : callAt ⟨od, oid, none, oi⟩ ⟨n, fr, st, ok, log⟩ = some (G, f, a, b) := by
              unfold callAt at hat ⊢
              simp only [hgv] at hat
              simp only [guardV]
              exact hat
            exact stepI_call (lg := false) (i := i) (o := ⟨od, oid, none, oi⟩) hc hat2 hS
          · rfl
          · rfl

theorem stepX_skip {S' : FuncId → List PV → List SE → CallRes → Prop} {lg : Bool} {c : CallRes} {i : Nat} {o : Ins} {s : PS} (h : (o.i.isCall && (lg || !skipJ o s)) = false) : stepX S lg c i o s = stepX S' lg c i o s := by
  cases hc : o.i.isCall with
  | false => exact stepX_nocall hc
  | true =>
    rw [hc] at h
    simp only [Bool.true_and, Bool.or_eq_false_iff, Bool.not_eq_false'] at h
    obtain ⟨rfl, hs⟩ := h
    have hh : o.i.heavy = false := by
      obtain ⟨od, oid, og, oi⟩ := o
      cases oi <;> simp [I.isCall] at hc <;> rfl
    obtain ⟨od, oid, og, oi⟩ := o
    obtain ⟨n, fr, st, ok, log⟩ := s
    simp only [stepX, stepG]
    simp only at hh
    rw [hh, hs]
    cases og with
    | none => simp [skipJ] at hs
    | some g => rfl

/-- Instructions with their numbers. -/
def num : Nat → List Ins → List (Nat × Ins)
  | _, [] => []
  | i, x :: r => (i, x) :: num (i + 1) r
theorem num_fst : ∀ (l : List Ins) (i : Nat), (num i l).map (·.1) = List.range' i l.length
  | [], i => rfl
  | x :: l, i => by simp [num, num_fst l (i + 1), List.range'_succ]
theorem num_get : ∀ (l : List Ins) (i : Nat) (p : Nat × Ins), p ∈ num i l → i ≤ p.1 ∧ l[p.1 - i]? = some p.2
  | [], i, p, h => by simp [num] at h
  | x :: l, i, p, h => by
    simp only [num, List.mem_cons] at h
    rcases h with rfl | h
    · exact ⟨Nat.le_refl _, by simp⟩
    · obtain ⟨h1, h2⟩ := num_get l (i + 1) p h
      refine ⟨by omega, ?_⟩
      rw [show p.1 - i = (p.1 - (i + 1)) + 1 from by omega]
      simpa using h2
theorem evL_cr {lg : Bool} {cr cr' : Nat → CallRes} : ∀ {l : List (Nat × Ins)} {s : PS}, (∀ p ∈ l, cr p.1 = cr' p.1) → evL S lg cr l s = evL S lg cr' l s
  | [], s, h => rfl
  | (i, x) :: r, s, h => by
    simp only [evL, h (i, x) (by simp)]
    split
    · exact evL_cr fun p hp => h p (by simp [hp])
    · rfl

theorem evK_evL {lg : Bool} : ∀ {l : List Ins} {i : Nat} {s : PS} {K : PS → Prop}, evK S lg i l s K → ∃ cr s', evL S lg cr (num i l) s = some s' ∧ K s'
  | [], i, s, K, h => ⟨fun _ => default, s, rfl, h⟩
  | x :: l, i, s, K, h => by
    simp only [evK] at h
    have main : ∀ (c : CallRes) (s1 : PS), stepX S lg c i x s = some s1 → evK S lg (i + 1) l s1 K → ∃ cr s', evL S lg cr (num i (x :: l)) s = some s' ∧ K s' := fun c s1 h1 h2 => by
      obtain ⟨cr, s', h3, h4⟩ := evK_evL h2
      refine ⟨fun k => if k = i then c else cr k, s', ?_, h4⟩
      simp only [num, evL, if_pos, h1]
      rw [← h3]
      refine evL_cr fun p hp => ?_
      have := (num_get l (i + 1) p hp).1
      rw [if_neg (by omega)]
    split at h
    · rename_i hc
      have hc := (Bool.and_eq_true_iff.1 hc).1
      split at h
      · rename_i G id args bs hat
        obtain ⟨c, hS, h⟩ := h
        split at h
        · rename_i s1 h1
          refine main c s1 ?_ h
          rw [stepX_call hc hat hS]; exact h1
        · exact h.elim
      · exact h.elim
    · rename_i hc
      split at h
      · rename_i s1 h1
        refine main default s1 ?_ h
        rw [stepX_skip (S' := Any) hc]; exact h1
      · exact h.elim
end

/-! ### code -/
def lvOf : Exit → Option Lv
  | .normal => some .nrm
  | .exit i => some (.ex i)
  | .ret => some .ret
  | _ => none

section
variable {P : Program}

/-- What holds where code is left. -/
def post (X : Cx) (w0 : World) (may : Nat → Prop) (Q : Lv → PS → Prop) (e : Exit) (a : Act) (w : World) : Prop :=
  ∃ lv s γ, lvOf e = some lv ∧ Q lv s ∧ Rel X w0 may a w s γ

/-- What code does, said of pure states. -/
def LSem (P : Program) (wr : Bool) (np : Nat) (c : C) (Q : Lv → PS → Prop) (s : PS) : Prop :=
  (∀ lv s, Q lv s → s.ok) → ∀ code, comp P wr code = some c.er → ∀ X w0 may a w γ, X.np = np → Rel X w0 may a w s γ → code.wp P (post X w0 may Q) a w

theorem Rel.same {X : Cx} {w0 : World} {may : Nat → Prop} {a : Act} {w : World} {s s' : PS} {γ : Gh} (h : Rel X w0 may a w s γ) (hn : s.n = s'.n) (hf : s.fr = s'.fr) (hs : s.st = s'.st) : Rel X w0 may a w s' γ :=
  ⟨by rw [← hn]; exact h.size, h.defers, fun t p hp => by rw [← hf] at hp; rw [← hn]; exact h.fr t p hp, by rw [← hs]; exact h.st, h.keeps, h.lo, h.own, h.asLt, fun r hr => by rw [← hs]; exact h.par r hr, h.mayP⟩

theorem Rep.drew {X : Cx} {γ : Gh} {w : World} {p : PV} {v : Value} (h : Rep X γ w p v) : Rep X γ { w with drawn := w.drawn + 1 } p v :=
  h.mono (fun _ _ h => h) (fun _ h => .inl h) (Nat.le_refl _) (fun _ _ _ => rfl)
theorem Rel.drew {X : Cx} {w0 : World} {may : Nat → Prop} {a : Act} {w : World} {s : PS} {γ : Gh} (h : Rel X w0 may a w s γ) : Rel X w0 may a { w with drawn := w.drawn + 1 } s γ :=
  ⟨h.size, h.defers, fun t p hp => ⟨(h.fr t p hp).1, (h.fr t p hp).2.drew⟩,
    ⟨h.st.dom, fun r ge e hg he => (h.st.at_ r ge e hg he).mono (fun _ _ hp => hp.drew) (fun _ _ => rfl), h.st.inj, h.st.asOff, h.st.lt⟩,
    ⟨h.keeps.os, h.keeps.tape, h.keeps.output, h.keeps.size, h.keeps.block⟩, h.lo, h.own, h.asLt, h.par, h.mayP⟩

theorem comp_ins {wr : Bool} {ops : Array Oper} {ins : List Ins} (h : mapO (compO P wr ops) ops.toList = some ins) (k : Nat) (o : Oper) (hk : ops[k]? = some o) : ∃ x, ins[k]? = some x ∧ compO P wr ops o = some x := by
  have := mapO_get h k o (by simpa using hk)
  exact this

theorem vc_sound {wr : Bool} {np : Nat} (hmix : P.follows .mixedOrders = true) : ∀ (c : C) (code : Code) (Q : Lv → PS → Prop) (s : PS), (∀ lv s, Q lv s → s.ok) → comp P wr code = some c.er → vc (PureCall P) (LSem P wr np) c Q s →
    s.ok ∧ ∀ X w0 may a w γ, X.np = np → Rel X w0 may a w s γ → code.wp P (post X w0 may Q) a w := by
  intro c
  induction c with
  | skip =>
    intro code Q s hQ hc h
    refine ⟨hQ _ _ h, fun X w0 may a w γ hX hR => ?_⟩
    have : code = .skip := by
      cases code with
      | skip => rfl
      | region id ops dr => cases dr <;> simp only [comp, C.er] at hc <;> (repeat' (split at hc)) <;> simp_all
      | _ => simp only [comp, C.er] at hc <;> (repeat' (split at hc)) <;> simp_all
    subst this
    exact wp_skip ⟨_, _, _, rfl, h, hR⟩
  | reg ins =>
    intro code Q s hQ hc h
    simp only [vc] at h
    obtain ⟨cr, s', h1, h2⟩ := evK_evL h
    have hok := hQ _ _ h2
    refine ⟨evL_ok h1 hok, fun X w0 may a w γ hX hR => ?_⟩
    have : ∃ id ops, code = .region id ops false ∧ mapO (compO P wr ops) ops.toList = some ins := by
      cases code with
      | region id ops dr =>
        cases dr with
        | false =>
          simp only [comp, C.er, Option.map_eq_some_iff, C.reg.injEq, exists_eq_right] at hc
          exact ⟨id, ops, rfl, hc⟩
        | true => simp only [comp, C.er] at hc; repeat' (split at hc) <;> simp_all
      | _ => simp only [comp, C.er] at hc <;> (repeat' (split at hc)) <;> simp_all
    obtain ⟨id, ops, rfl, hm⟩ := this
    refine wp_region ?_
    have hlen : ops.size = ins.length := by have := mapO_length hm; simpa using this.symm
    have := reg_sound (ops := ops) (wr := wr) (l := num 0 ins) (Q := post X w0 may Q) (fun p hp => by
      obtain ⟨_, hg⟩ := num_get ins 0 p hp
      have hlt := (List.getElem?_eq_some_iff.1 hg).1
      have ho : ops[p.1]? = some (ops[p.1]'(by omega)) := Array.getElem?_eq_getElem (by omega)
      obtain ⟨x, hx, hco⟩ := comp_ins hm _ _ ho
      rw [show p.1 - 0 = p.1 from rfl, hx] at hg
      injection hg with hg; subst hg
      exact ⟨_, ho, hco⟩) hR h1 hok (fun a' w' γ' hR' => ⟨_, _, _, rfl, h2, hR'⟩)
    rw [num_fst, ← hlen, ← List.range_eq_range'] at this
    exact this
  | drw ins ps =>
    intro code Q s hQ hc h
    obtain ⟨n, fr, st, ok, log⟩ := s
    simp only [vc] at h
    obtain ⟨cr, s', h1, h2⟩ := evK_evL h
    obtain ⟨n', fr', st', ok', log'⟩ := s'
    simp only at h2
    obtain ⟨hap, h2⟩ := h2
    have hok := hQ _ _ h2
    have hok0 := evL_ok h1 hok
    refine ⟨hok0, fun X w0 may a w γ hX hR => ?_⟩
    have : ∃ id ops, code = .region id ops true ∧ mapO (compO P wr ops) ops.toList = some ins ∧ pairs (Region.before ops) ins = some ps ∧ edgesOk ops.toList = true := by
      cases code with
      | region id ops dr =>
        cases dr with
        | false => simp only [comp, C.er, Option.map_eq_some_iff] at hc; obtain ⟨_, _, hc⟩ := hc; cases hc
        | true =>
          simp only [comp, C.er] at hc
          split at hc
          · rename_i ins' hm
            split at hc
            · rename_i ps' hp
              split at hc
              · rename_i he
                simp only [Option.some.injEq, C.drw.injEq] at hc
                obtain ⟨rfl, rfl⟩ := hc
                exact ⟨id, ops, rfl, hm, hp, he⟩
              · cases hc
            · cases hc
          · cases hc
      | _ => simp only [comp, C.er] at hc <;> (repeat' (split at hc)) <;> simp_all
    obtain ⟨id, ops, rfl, hm, hp, he⟩ := this
    have hlen : ops.size = ins.length := by have := mapO_length hm; simpa using this.symm
    refine wp_region_any hmix ?_
    refine any_sound (wr := wr) (fun k o hk => comp_ins hm k o hk) hp (fun k o hk e hem heb => ?_) ops.size (num 0 ins) _ a _ _ _ γ ?_ ?_ ?_ (hR.drew.same (s' := ⟨n, fr, st, ok, fun _ => none⟩) rfl rfl rfl) h1 hok hap fun a' w' s'' γ' hS hR' => ?_
    · have h3 := List.all_eq_true.1 he (o, k) (List.mk_mem_zipIdx_iff_getElem?.2 (by simpa using hk))
      have h4 := Array.all_eq_true_iff_forall_mem.1 h3 e hem
      simp only [heb, Bool.not_true, Bool.false_or, decide_eq_true_eq] at h4
      exact h4
    · have := congrArg List.length (num_fst ins 0)
      simp only [List.length_map, List.length_range'] at this
      omega
    · refine ⟨by simp, fun k => ?_, ?_, fun k hk hnk => ?_⟩
      · rw [num_fst, ← hlen, ← List.range_eq_range', List.mem_range]
        constructor
        · intro h; exact ⟨h, by simp [h]⟩
        · rintro ⟨h, _⟩; exact h
      · rw [num_fst, ← List.range_eq_range']; exact List.pairwise_lt_range
      · rw [num_fst, ← hlen, ← List.range_eq_range', List.mem_range] at hnk; exact absurd hk hnk
    · intro p hp
      have := (num_get ins 0 p hp).2
      simpa using this
    · have e1 : s''.ok = ok' := propext hS.ok.symm
      obtain ⟨n2, fr2, st2, ok2, log2⟩ := s''
      have a1 := hS.n; have a2 := hS.fr; have a3 := hS.st
      simp only at e1 a1 a2 a3
      subst e1 a1 a2 a3
      exact ⟨_, _, _, rfl, h2, hR'.same rfl rfl rfl⟩
  | seq x y ihx ihy =>
    intro code Q s hQ hc h
    have : ∃ p q, code = .seq p q ∧ comp P wr p = some x.er ∧ comp P wr q = some y.er := by
      cases code with
      | seq p q =>
        simp only [comp, C.er] at hc
        split at hc
        · rename_i a b ha hb
          simp only [Option.some.injEq, C.seq.injEq] at hc
          obtain ⟨rfl, rfl⟩ := hc
          exact ⟨p, q, rfl, ha, hb⟩
        · cases hc
      | region id ops dr => cases dr <;> simp only [comp, C.er] at hc <;> (repeat' (split at hc)) <;> simp_all
      | _ => simp only [comp, C.er] at hc <;> (repeat' (split at hc)) <;> simp_all
    obtain ⟨p, q, rfl, hp, hq⟩ := this
    simp only [vc] at h
    obtain ⟨h1, h2⟩ := ihx p _ s (fun lv s' hs => by
      cases lv with
      | nrm => exact (ihy q Q s' hQ hq hs).1
      | ex i => exact hQ _ _ hs
      | ret => exact hQ _ _ hs) hp h
    refine ⟨h1, fun X w0 may a w γ hX hR => wp_seq (wp_mono (h2 X w0 may a w γ hX hR) ?_)⟩
    rintro e a' w' ⟨lv, s', γ', he, hq', hR'⟩
    cases e <;> simp only [lvOf, Option.some.injEq] at he
    · subst he; exact (ihy q Q s' hQ hq hq').2 X w0 may a' w' γ' hX hR'
    · subst he; exact ⟨_, _, _, rfl, hq', hR'⟩
    · cases he
    · subst he; exact ⟨_, _, _, rfl, hq', hR'⟩
    · cases he
    · cases he
  | cond g x y ihx ihy =>
    intro code Q s hQ hc h
    have : ∃ g' p q, code = .cond g' p q ∧ arg g' = some g ∧ comp P wr p = some x.er ∧ comp P wr q = some y.er := by
      cases code with
      | cond g' p q =>
        simp only [comp, C.er] at hc
        split at hc
        · rename_i c a b hc' ha hb
          simp only [Option.some.injEq, C.cond.injEq] at hc
          obtain ⟨rfl, rfl, rfl⟩ := hc
          exact ⟨g', p, q, rfl, hc', ha, hb⟩
        · cases hc
      | region id ops dr => cases dr <;> simp only [comp, C.er] at hc <;> (repeat' (split at hc)) <;> simp_all
      | _ => simp only [comp, C.er] at hc <;> (repeat' (split at hc)) <;> simp_all
    obtain ⟨g', p, q, rfl, hg, hp, hq⟩ := this
    obtain ⟨n, fr, st, ok, log⟩ := s
    simp only [vc] at h
    split at h
    · rename_i b hb
      obtain ⟨h1, h2, h3⟩ := h
      refine ⟨h1, fun X w0 may a w γ hX hR => ?_⟩
      have hgv := arg_rep (eval_opd hR) hg hb
      refine wp_cond_split hgv.bool_inv (fun ht => ?_) (fun hf => ?_)
      · exact (ihx p Q _ hQ hp (h2 ht)).2 X w0 may a w γ hX (hR.same rfl rfl rfl)
      · exact (ihy q Q _ hQ hq (h3 hf)).2 X w0 may a w γ hX (hR.same rfl rfl rfl)
    · exact h.elim
  | block id b ih =>
    intro code Q s hQ hc h
    have : ∃ p, code = .block id p ∧ comp P wr p = some b.er := by
      cases code with
      | block id' p =>
        simp only [comp, C.er, Option.map_eq_some_iff, C.block.injEq] at hc
        obtain ⟨b', hb, rfl, rfl⟩ := hc
        exact ⟨p, rfl, hb⟩
      | region id ops dr => cases dr <;> simp only [comp, C.er] at hc <;> (repeat' (split at hc)) <;> simp_all
      | _ => simp only [comp, C.er] at hc <;> (repeat' (split at hc)) <;> simp_all
    obtain ⟨p, rfl, hp⟩ := this
    simp only [vc] at h
    obtain ⟨h1, h2⟩ := ih p _ s (fun lv s' hs => by
      cases lv with
      | nrm => exact hQ _ _ hs
      | ex i => simp only at hs; split at hs <;> exact hQ _ _ hs
      | ret => exact hQ _ _ hs) hp h
    refine ⟨h1, fun X w0 may a w γ hX hR => wp_block (wp_mono (h2 X w0 may a w γ hX hR) ?_)⟩
    rintro e a' w' ⟨lv, s', γ', he, hq', hR'⟩
    cases e <;> simp only [lvOf, Option.some.injEq] at he
    · subst he; exact ⟨_, _, _, rfl, hq', hR'⟩
    · rename_i i
      subst he
      simp only [Exit.inBlock]
      simp only at hq'
      split at hq'
      · rename_i hi
        rw [if_pos (Nat.eq_of_beq_eq_true hi)]
        exact ⟨_, _, _, rfl, hq', hR'⟩
      · rename_i hi
        rw [if_neg (fun e => by rw [e, Nat.beq_refl] at hi; cases hi)]
        exact ⟨_, _, _, rfl, hq', hR'⟩
    · cases he
    · subst he; exact ⟨_, _, _, rfl, hq', hR'⟩
    · cases he
    · cases he
  | loop b ih =>
    intro code Q s hQ hc h
    obtain ⟨n, fr, st, ok, log⟩ := s
    simp only [vc] at h
    exact ⟨h.1, fun X w0 may a w γ hX hR => h.2 hQ code hc X w0 may a w γ hX (hR.same rfl rfl rfl)⟩
  | exit id =>
    intro code Q s hQ hc h
    have : code = .exit id := by
      cases code with
      | exit id' => simp only [comp, C.er, Option.some.injEq, C.exit.injEq] at hc; rw [hc]
      | region id ops dr => cases dr <;> simp only [comp, C.er] at hc <;> (repeat' (split at hc)) <;> simp_all
      | _ => simp only [comp, C.er] at hc <;> (repeat' (split at hc)) <;> simp_all
    subst this
    exact ⟨hQ _ _ h, fun X w0 may a w γ hX hR => wp_exit ⟨_, _, _, rfl, h, hR⟩⟩
  | scope b ih =>
    intro code Q s hQ hc h
    have : ∃ p, code = .scope p ∧ comp P wr p = some b.er := by
      cases code with
      | scope p =>
        simp only [comp, C.er, Option.map_eq_some_iff, C.scope.injEq] at hc
        obtain ⟨b', hb, rfl⟩ := hc
        exact ⟨p, rfl, hb⟩
      | region id ops dr => cases dr <;> simp only [comp, C.er] at hc <;> (repeat' (split at hc)) <;> simp_all
      | _ => simp only [comp, C.er] at hc <;> (repeat' (split at hc)) <;> simp_all
    obtain ⟨p, rfl, hp⟩ := this
    simp only [vc] at h
    obtain ⟨h1, h2⟩ := ih p Q s hQ hp h
    refine ⟨h1, fun X w0 may a w γ hX hR => wp_scope_straight (wp_mono (h2 X w0 may a w γ hX hR) ?_)⟩
    rintro e a' w' ⟨lv, s', γ', he, hq', hR'⟩
    cases e <;> simp only [lvOf, Option.some.injEq] at he
    · subst he; exact ⟨_, _, _, rfl, hq', hR'⟩
    · subst he; exact ⟨_, _, _, rfl, hq', hR'⟩
    · cases he
    · subst he; exact ⟨_, _, _, rfl, hq', hR'⟩
    · cases he
    · cases he
  | ret =>
    intro code Q s hQ hc h
    have : code = .ret := by
      cases code with
      | ret => rfl
      | region id ops dr => cases dr <;> simp only [comp, C.er] at hc <;> (repeat' (split at hc)) <;> simp_all
      | _ => simp only [comp, C.er] at hc <;> (repeat' (split at hc)) <;> simp_all
    subst this
    exact ⟨hQ _ _ h, fun X w0 may a w γ hX hR => wp_ret ⟨_, _, _, rfl, h, hR⟩⟩
  | cut b ih =>
    intro code Q s hQ hc h
    obtain ⟨n, fr, st, ok, log⟩ := s
    simp only [vc] at h
    exact ⟨h.1, fun X w0 may a w γ hX hR => h.2 hQ code hc X w0 may a w γ hX (hR.same rfl rfl rfl)⟩
end
end Pv
end Go.Proofs.Ytogoplhikmmggaa
