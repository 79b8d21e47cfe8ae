/- CALLS THAT WRITE INTO A SLICE OF THE CALLER's OWN (numbers, one cell each): a rule for a region that begins with one. -/
import Derived.Test.YtcfcmafmdpbjoaaDoorZte
import Derived.Scope
import Derived.ScopeJumps
import Derived.Test.YtcfcmafmdpbjoaaDoorRows
/- CODE: what 'vc' asks for is enough. -/
set_option linter.unusedSimpArgs false
set_option linter.unusedVariables false
namespace Go.Proofs.YtcfcmafmdpbjoaaDoor
namespace Pv
open Go.RowKit
section
variable {S : FuncId → List PV → List SE → CallRes → Prop}
abbrev Any : FuncId → List PV → List SE → CallRes → Prop := fun _ _ _ _ => True
theorem eff_nocall {S S' : FuncId → List PV → List SE → CallRes → Prop} {c : CallRes} {d : Nat} {i : I} {vs : List PV} {ids : List Nat} {cs : List SE} (h : i.isCall = false) : eff S c d i vs ids cs = eff S' c d i vs ids cs := by
  cases i <;> first | rfl | simp [I.isCall] at h
theorem stepI_nocall {S' : FuncId → List PV → List SE → CallRes → Prop} {lg : Bool} {c : CallRes} {i : Nat} {o : Ins} {s : PS} (h : o.i.isCall = false) : stepI S lg c i o s = stepI S' lg c i o s := by
  obtain ⟨n, fr, st, ok, log⟩ := s
  obtain ⟨od, oid, og, oi⟩ := o
  unfold stepI
  simp only [eff_nocall (S := S) (S' := S') h]
theorem okG_false : ∀ (l l' : List Prop) (ok : Prop), l.length = l'.length → okG false ok l = okG false ok l'
  | [], [], ok, h => rfl
  | [], _ :: _, ok, h => by simp at h
  | _ :: _, [], ok, h => by simp at h
  | p :: l, q :: l', ok, h => by
    simp only [okG]
    have : (ok ∧ (false = true → p)) = (ok ∧ (false = true → q)) := by apply propext; simp
    rw [this]
    exact okG_false l l' _ (by simpa using h)
theorem stepI_call {lg : Bool} {c : CallRes} {i : Nat} {o : Ins} {s : PS} {G : Bool} {f : FuncId} {a : List PV} {b : List SE} (hc : o.i.isCall = true) (hat : callAt o s = some (G, f, a, b)) (hS : G = true → S f a b c) : stepI S lg c i o s = stepI Any lg c i o s := by
  obtain ⟨n, fr, st, ok, log⟩ := s
  obtain ⟨od, oid, og, oi⟩ := o
  cases oi with
  | call cf xs =>
    unfold callAt at hat
    simp only at hat
    split at hat
    · cases hat
    · rename_i G' hG
      split at hat
      · cases hat
      · rename_i vs0 hvs
        split at hat
        · cases hat
        · rename_i f0 args hst
          split at hat
          · cases hat
          · rename_i cs hcs
            split at hat
            · rename_i id args' bs hca
              simp only [norm_someL, snorm_someL, Option.some.injEq, Prod.mk.injEq] at hat
              obtain ⟨rfl, rfl, rfl, rfl⟩ := hat
              rcases hss : stripS G' vs0 with ⟨sd, vs⟩
              rw [hss] at hst hcs hca
              simp only at hst hcs hca
              subst hst
              cases G' with
              | true =>
                have he : ∀ d, eff S c d (.call cf xs) (f0 :: args) ((I.call cf xs).acc (f0 :: args)) cs = eff Any c d (.call cf xs) (f0 :: args) ((I.call cf xs).acc (f0 :: args)) cs := fun d => by
                  simp only [eff, eCall, callV, hca]
                  have : S id args' (bs.map (·.2)) c = True := eq_true (hS rfl)
                  simp only [this]
                unfold stepI
                simp only [hG, hvs, stripI, hss, hcs, he]
              | false =>
                cases og with
                | none => simp [guardV] at hG
                | some g =>
                  unfold stepI
                  simp only [hG, hvs, stripI, hss, hcs, eff, eCall, callV, hca]
                  cases hgv : natIn id givers with
                  | true =>
                    generalize c.val = cv
                    generalize c.st = cst
                    generalize c.news = cnw
                    have key : ∀ s : Prop, givV (((I.call cf xs).acc (f0 :: args)).headD 0) s cv cst cnw = none ∨ ∃ v w k, ∀ s : Prop, givV (((I.call cf xs).acc (f0 :: args)).headD 0) s cv cst cnw = some ⟨v, [s], [w], [], k, []⟩ := fun s => by
                      unfold givV
                      split
                      · split
                        · exact .inr ⟨_, _, _, fun _ => rfl⟩
                        · exact .inl rfl
                      · exact .inl rfl
                    rcases key (S id args' (bs.map (·.2)) c) with h0 | ⟨v0, w0, k0, h0⟩
                    · rcases key (Any id args' (bs.map (·.2)) c) with h1 | ⟨v1, w1, k1, h1⟩
                      · simp only [h0, h1]
                      · rw [h1] at h0; cases h0
                    · simp only [h0]
                  | false =>
                  simp only
                  cases hrdr : natIn id readers with
                  | true =>
                    simp only
                    generalize c.val = cv
                    generalize c.st = cst
                    generalize c.news = cnw
                    cases cv.plain <;> cases cst <;> cases cnw <;> simp only
                    rw [okG_false (sd ++ [S id args' (bs.map (·.2)) c]) (sd ++ [Any id args' (bs.map (·.2)) c]) ok (by simp)]
                  | false =>
                  simp only
                  split
                  · rename_i h1
                    split at h1
                    · cases h1
                    · rename_i hn; simp only [if_neg hn]
                  · rename_i val side wr nw kill rm h1
                    split at h1
                    · rename_i hcond
                      simp only [Option.some.injEq, Eff.mk.injEq] at h1
                      obtain ⟨rfl, rfl, rfl, rfl, rfl, rfl⟩ := h1
                      simp only [if_pos hcond]
                      rw [okG_false (sd ++ [S id args' (bs.map (·.2)) c]) (sd ++ [True]) ok (by simp)]
                    · cases h1
            · cases hat
  | _ => simp [I.isCall] at hc
theorem stepX_nocall {S' : FuncId → List PV → List SE → CallRes → Prop} {lg : Bool} {c : CallRes} {i : Nat} {o : Ins} {s : PS} (h : o.i.isCall = false) : stepX S lg c i o s = stepX S' lg c i o s := by
  cases lg with
  | true => simp only [stepX]; exact stepI_nocall h
  | false =>
    obtain ⟨od, oid, og, oi⟩ := o
    obtain ⟨n, fr, st, ok, log⟩ := s
    simp only [stepX, stepG]
    cases og with
    | none => simp only [stepI_nocall (S := S) (S' := S') (lg := false) (c := c) (i := i) (o := ⟨od, oid, none, oi⟩) h]
    | some g =>
      have e1 := stepI_nocall (S := S) (S' := S') (lg := false) (c := c) (i := i) (o := ⟨od, oid, some g, oi⟩) (s := ⟨n, fr, st, ok, log⟩) h
      have e2 := stepI_nocall (S := S) (S' := S') (lg := false) (c := c) (i := i) (o := ⟨od, oid, none, oi⟩) (s := ⟨n, fr, st, ok, log⟩) h
      cases oi.heavy with
      | true => simp only [e2]
      | false =>
        cases skipJ ⟨od, oid, some g, oi⟩ ⟨n, fr, st, ok, log⟩ with
        | true => simp only [e1]
        | false =>
          simp only
          rw [e1]
          simp only [e2]
theorem stepX_call {lg : Bool} {c : CallRes} {i : Nat} {o : Ins} {s : PS} {G : Bool} {f : FuncId} {a : List PV} {b : List SE} (hc : o.i.isCall = true) (hat : callAt o s = some (G, f, a, b)) (hS : G = true → S f a b c) : stepX S lg c i o s = stepX Any lg c i o s := by
  cases lg with
  | true => simp only [stepX]; exact stepI_call hc hat hS
  | false =>
    have hh : o.i.heavy = false := by
      obtain ⟨od, oid, og, oi⟩ := o
      cases oi <;> simp [I.isCall] at hc <;> rfl
    have e := stepI_call (lg := false) (i := i) hc hat hS
    obtain ⟨od, oid, og, oi⟩ := o
    obtain ⟨n, fr, st, ok, log⟩ := s
    simp only [stepX, stepG]
    simp only at hh
    rw [hh]
    cases og with
    | none => exact e
    | some g =>
      cases skipJ ⟨od, oid, some g, oi⟩ ⟨n, fr, st, ok, log⟩ with
      | true =>
        have hp : oi.isPick = false := by cases oi <;> simp [I.isCall] at hc <;> rfl
        simp only [hp]
      | false =>
        simp only
        rw [e]
        split
        · rfl
        · split
          · rename_i hgv
            have hat2 : callAt ⟨od, oid, none, oi⟩ ⟨n, fr, st, ok, log⟩ = some (G, f, a, b) := by
              unfold callAt at hat ⊢
              simp only [hgv] at hat
              simp only [guardV]
              exact hat
            exact stepI_call (lg := false) (i := i) (o := ⟨od, oid, none, oi⟩) hc hat2 hS
          · rfl
          · rfl
theorem stepX_skip {S' : FuncId → List PV → List SE → CallRes → Prop} {lg : Bool} {c : CallRes} {i : Nat} {o : Ins} {s : PS} (h : (o.i.isCall && (lg || !skipJ o s)) = false) : stepX S lg c i o s = stepX S' lg c i o s := by
  cases hc : o.i.isCall with
  | false => exact stepX_nocall hc
  | true =>
    rw [hc] at h
    simp only [Bool.true_and, Bool.or_eq_false_iff, Bool.not_eq_false'] at h
    obtain ⟨rfl, hs⟩ := h
    have hh : o.i.heavy = false := by
      obtain ⟨od, oid, og, oi⟩ := o
      cases oi <;> simp [I.isCall] at hc <;> rfl
    obtain ⟨od, oid, og, oi⟩ := o
    obtain ⟨n, fr, st, ok, log⟩ := s
    simp only [stepX, stepG]
    simp only at hh
    rw [hh, hs]
    cases og with
    | none => simp [skipJ] at hs
    | some g =>
      have hp : oi.isPick = false := by cases oi <;> simp [I.isCall] at hc <;> rfl
      simp only [hp]
def num : Nat → List Ins → List (Nat × Ins)
  | _, [] => []
  | i, x :: r => (i, x) :: num (i + 1) r
theorem num_fst : ∀ (l : List Ins) (i : Nat), (num i l).map (·.1) = List.range' i l.length
  | [], i => rfl
  | x :: l, i => by simp [num, num_fst l (i + 1), List.range'_succ]
theorem num_get : ∀ (l : List Ins) (i : Nat) (p : Nat × Ins), p ∈ num i l → i ≤ p.1 ∧ l[p.1 - i]? = some p.2
  | [], i, p, h => by simp [num] at h
  | x :: l, i, p, h => by
    simp only [num, List.mem_cons] at h
    rcases h with rfl | h
    · exact ⟨Nat.le_refl _, by simp⟩
    · obtain ⟨h1, h2⟩ := num_get l (i + 1) p h
      refine ⟨by omega, ?_⟩
      rw [show p.1 - i = (p.1 - (i + 1)) + 1 from by omega]
      simpa using h2
theorem evL_cr {lg : Bool} {cr cr' : Nat → CallRes} : ∀ {l : List (Nat × Ins)} {s : PS}, (∀ p ∈ l, cr p.1 = cr' p.1) → evL S lg cr l s = evL S lg cr' l s
  | [], s, h => rfl
  | (i, x) :: r, s, h => by
    simp only [evL, h (i, x) (by simp)]
    split
    · exact evL_cr fun p hp => h p (by simp [hp])
    · rfl
theorem evK_evL {lg : Bool} : ∀ {l : List Ins} {i : Nat} {s : PS} {K : PS → Prop}, evK S lg i l s K → ∃ cr s', evL S lg cr (num i l) s = some s' ∧ K s'
  | [], i, s, K, h => ⟨fun _ => default, s, rfl, h⟩
  | x :: l, i, s, K, h => by
    simp only [evK] at h
    have main : ∀ (c : CallRes) (s1 : PS), stepX S lg c i x s = some s1 → evK S lg (i + 1) l s1 K → ∃ cr s', evL S lg cr (num i (x :: l)) s = some s' ∧ K s' := fun c s1 h1 h2 => by
      obtain ⟨cr, s', h3, h4⟩ := evK_evL h2
      refine ⟨fun k => if k = i then c else cr k, s', ?_, h4⟩
      simp only [num, evL, if_pos, h1]
      rw [← h3]
      refine evL_cr fun p hp => ?_
      have := (num_get l (i + 1) p hp).1
      rw [if_neg (by omega)]
    split at h
    · rename_i hc
      have hc := (Bool.and_eq_true_iff.1 hc).1
      split at h
      · rename_i G id args bs hat
        obtain ⟨c, hS, h⟩ := h
        split at h
        · rename_i s1 h1
          refine main c s1 ?_ h
          rw [stepX_call hc hat hS]; exact h1
        · exact h.elim
      · exact h.elim
    · rename_i hc
      split at h
      · rename_i s1 h1
        refine main default s1 ?_ h
        rw [stepX_skip (S' := Any) hc]; exact h1
      · exact h.elim
end
/-! ### code -/
def lvOf : Exit → Option Lv
  | .normal => some .nrm
  | .exit i => match Nat.ble 1000000 i with
    | true => none
    | false => some (.ex i)
  | .goto l => some (.ex (1000000 + l))
  | .ret => some .ret
  | _ => none
theorem lvOf_exit {i : Nat} {lv : Lv} (h : lvOf (.exit i) = some lv) : Nat.ble 1000000 i = false ∧ lv = .ex i := by
  unfold lvOf at h
  dsimp only at h
  split at h
  · cases h
  · rename_i hb
    cases h
    exact ⟨hb, rfl⟩
theorem lvOf_of {i : Nat} (h : Nat.ble 1000000 i = false) : lvOf (.exit i) = some (.ex i) := by
  simp only [lvOf, h]
theorem ble_add (l : Nat) : Nat.ble 1000000 (1000000 + l) = true := Nat.ble_eq_true_of_le (Nat.le_add_right _ _)
section
variable {P : Program}
def post (X : Cx) (w0 : World) (may : Nat → Prop) (Q : Lv → PS → Prop) (e : Exit) (a : Act) (w : World) : Prop :=
  ∃ lv s γ, lvOf e = some lv ∧ Q lv s ∧ Rel X w0 may a w s γ
def LSem (P : Program) (wr : Bool) (np : Nat) (c : C) (Q : Lv → PS → Prop) (s : PS) : Prop :=
  (∀ lv s, Q lv s → s.ok) → ∀ code, comp P wr code = some c.er → ∀ X w0 may a w γ, X.np = np → Rel X w0 may a w s γ → code.wp P (post X w0 may Q) a w
theorem Rel.same {X : Cx} {w0 : World} {may : Nat → Prop} {a : Act} {w : World} {s s' : PS} {γ : Gh} (h : Rel X w0 may a w s γ) (hn : s.n = s'.n) (hf : s.fr = s'.fr) (hs : s.st = s'.st) : Rel X w0 may a w s' γ :=
  ⟨by rw [← hn]; exact h.size, h.defers, fun t p hp => by rw [← hf] at hp; rw [← hn]; exact h.fr t p hp, by rw [← hs]; exact h.st, h.keeps, h.lo, h.own, h.asLt, fun r hr => by rw [← hs]; exact h.par r hr, h.mayP⟩
theorem Rep.drew {X : Cx} {γ : Gh} {w : World} {p : PV} {v : Value} (h : Rep X γ w p v) : Rep X γ { w with drawn := w.drawn + 1 } p v :=
  h.mono (fun _ _ h => h) (fun _ h => .inl h) (Nat.le_refl _) (fun _ _ _ => rfl)
theorem Rel.drew {X : Cx} {w0 : World} {may : Nat → Prop} {a : Act} {w : World} {s : PS} {γ : Gh} (h : Rel X w0 may a w s γ) : Rel X w0 may a { w with drawn := w.drawn + 1 } s γ :=
  ⟨h.size, h.defers, fun t p hp => ⟨(h.fr t p hp).1, (h.fr t p hp).2.drew⟩,
    ⟨h.st.dom, fun r ge e hg he => (h.st.at_ r ge e hg he).mono (fun _ _ hp => hp.drew) (fun _ _ => rfl), h.st.inj, h.st.asOff, h.st.lt, h.st.glob⟩,
    ⟨h.keeps.os, h.keeps.tape, h.keeps.output, h.keeps.size, h.keeps.block⟩, h.lo, h.own, h.asLt, h.par, h.mayP⟩
theorem comp_ins {wr : Bool} {ops : Array Oper} {ins : List Ins} (h : mapO (compO P wr ops) ops.toList = some ins) (k : Nat) (o : Oper) (hk : ops[k]? = some o) : ∃ x, ins[k]? = some x ∧ compO P wr ops o = some x := by
  have := mapO_get h k o (by simpa using hk)
  exact this
theorem vc_sound {wr : Bool} {np : Nat} (hmix : P.follows .mixedOrders = true) : ∀ (c : C) (code : Code) (Q : Lv → PS → Prop) (s : PS), (∀ lv s, Q lv s → s.ok) → comp P wr code = some c.er → vc (PureCall P) (LSem P wr np) c Q s →
    s.ok ∧ ∀ X w0 may a w γ, X.np = np → Rel X w0 may a w s γ → code.wp P (post X w0 may Q) a w := by
  intro c
  induction c with
  | skip =>
    intro code Q s hQ hc h
    refine ⟨hQ _ _ h, fun X w0 may a w γ hX hR => ?_⟩
    have : code = .skip := by
      cases code with
      | skip => rfl
      | region id ops dr => cases dr <;> simp only [comp, C.er] at hc <;> (repeat' (split at hc)) <;> simp_all
      | _ => simp only [comp, C.er] at hc <;> (repeat' (split at hc)) <;> simp_all
    subst this
    exact wp_skip ⟨_, _, _, rfl, h, hR⟩
  | reg ins =>
    intro code Q s hQ hc h
    simp only [vc] at h
    obtain ⟨cr, s', h1, h2⟩ := evK_evL h
    have hok := hQ _ _ h2
    refine ⟨evL_ok h1 hok, fun X w0 may a w γ hX hR => ?_⟩
    have : ∃ id ops, code = .region id ops false ∧ mapO (compO P wr ops) ops.toList = some ins := by
      cases code with
      | region id ops dr =>
        cases dr with
        | false =>
          simp only [comp, C.er] at hc
          split at hc
          · rename_i hm
            simp only [Option.some.injEq, C.reg.injEq] at hc
            subst hc
            exact ⟨id, ops, rfl, hm⟩
          · cases hc
        | true => simp only [comp, C.er] at hc; (repeat' (split at hc)) <;> cases hc
      | _ => simp only [comp, C.er] at hc <;> (repeat' (split at hc)) <;> simp_all
    obtain ⟨id, ops, rfl, hm⟩ := this
    refine wp_region ?_
    have hlen : ops.size = ins.length := by have := mapO_length hm; simpa using this.symm
    have := reg_sound (ops := ops) (wr := wr) (l := num 0 ins) (Q := post X w0 may Q) (fun p hp => by
      obtain ⟨_, hg⟩ := num_get ins 0 p hp
      have hlt := (List.getElem?_eq_some_iff.1 hg).1
      have ho : ops[p.1]? = some (ops[p.1]'(by omega)) := Array.getElem?_eq_getElem (by omega)
      obtain ⟨x, hx, hco⟩ := comp_ins hm _ _ ho
      rw [show p.1 - 0 = p.1 from rfl, hx] at hg
      injection hg with hg; subst hg
      exact ⟨_, ho, hco⟩) hR h1 hok (fun a' w' γ' hR' => ⟨_, _, _, rfl, h2, hR'⟩)
    rw [num_fst, ← hlen, ← List.range_eq_range'] at this
    exact this
  | drw ins ps =>
    intro code Q s hQ hc h
    obtain ⟨n, fr, st, ok, log⟩ := s
    simp only [vc] at h
    obtain ⟨cr, s', h1, h2⟩ := evK_evL h
    obtain ⟨n', fr', st', ok', log'⟩ := s'
    simp only at h2
    obtain ⟨hap, h2⟩ := h2
    have hok := hQ _ _ h2
    have hok0 := evL_ok h1 hok
    refine ⟨hok0, fun X w0 may a w γ hX hR => ?_⟩
    have : ∃ id ops, code = .region id ops true ∧ mapO (compO P wr ops) ops.toList = some ins ∧ pairs (Region.before ops) ins = some ps ∧ edgesOk ops.toList = true := by
      cases code with
      | region id ops dr =>
        cases dr with
        | false => simp only [comp, C.er] at hc; split at hc <;> cases hc
        | true =>
          simp only [comp, C.er] at hc
          split at hc
          · rename_i ins' hm
            split at hc
            · rename_i ps' hp
              split at hc
              · rename_i he
                simp only [Option.some.injEq, C.drw.injEq] at hc
                obtain ⟨rfl, rfl⟩ := hc
                exact ⟨id, ops, rfl, hm, hp, he⟩
              · cases hc
            · cases hc
          · cases hc
      | _ => simp only [comp, C.er] at hc <;> (repeat' (split at hc)) <;> simp_all
    obtain ⟨id, ops, rfl, hm, hp, he⟩ := this
    have hlen : ops.size = ins.length := by have := mapO_length hm; simpa using this.symm
    refine wp_region_any hmix ?_
    refine any_sound (wr := wr) (fun k o hk => comp_ins hm k o hk) hp (fun k o hk e hem heb => ?_) ops.size (num 0 ins) _ a _ _ _ γ ?_ ?_ ?_ (hR.drew.same (s' := ⟨n, fr, st, ok, fun _ => none⟩) rfl rfl rfl) h1 hok hap fun a' w' s'' γ' hS hR' => ?_
    · have h3 := List.all_eq_true.1 he (o, k) (List.mk_mem_zipIdx_iff_getElem?.2 (by simpa using hk))
      have h4 := Array.all_eq_true_iff_forall_mem.1 h3 e hem
      simp only [heb, Bool.not_true, Bool.false_or, decide_eq_true_eq] at h4
      exact h4
    · have := congrArg List.length (num_fst ins 0)
      simp only [List.length_map, List.length_range'] at this
      omega
    · refine ⟨by simp, fun k => ?_, ?_, fun k hk hnk => ?_⟩
      · rw [num_fst, ← hlen, ← List.range_eq_range', List.mem_range]
        constructor
        · intro h; exact ⟨h, by simp [h]⟩
        · rintro ⟨h, _⟩; exact h
      · rw [num_fst, ← List.range_eq_range']; exact List.pairwise_lt_range
      · rw [num_fst, ← hlen, ← List.range_eq_range', List.mem_range] at hnk; exact absurd hk hnk
    · intro p hp
      have := (num_get ins 0 p hp).2
      simpa using this
    · have e1 : s''.ok = ok' := propext hS.ok.symm
      obtain ⟨n2, fr2, st2, ok2, log2⟩ := s''
      have a1 := hS.n; have a2 := hS.fr; have a3 := hS.st
      simp only at e1 a1 a2 a3
      subst e1 a1 a2 a3
      exact ⟨_, _, _, rfl, h2, hR'.same rfl rfl rfl⟩
  | seq x y ihx ihy =>
    intro code Q s hQ hc h
    have : ∃ p q, code = .seq p q ∧ comp P wr p = some x.er ∧ comp P wr q = some y.er := by
      cases code with
      | seq p q =>
        simp only [comp, C.er] at hc
        split at hc
        · rename_i a b ha hb
          simp only [Option.some.injEq, C.seq.injEq] at hc
          obtain ⟨rfl, rfl⟩ := hc
          exact ⟨p, q, rfl, ha, hb⟩
        · cases hc
      | region id ops dr => cases dr <;> simp only [comp, C.er] at hc <;> (repeat' (split at hc)) <;> simp_all
      | _ => simp only [comp, C.er] at hc <;> (repeat' (split at hc)) <;> simp_all
    obtain ⟨p, q, rfl, hp, hq⟩ := this
    simp only [vc] at h
    obtain ⟨h1, h2⟩ := ihx p _ s (fun lv s' hs => by
      cases lv with
      | nrm => exact (ihy q Q s' hQ hq hs).1
      | ex i => exact hQ _ _ hs
      | ret => exact hQ _ _ hs) hp h
    refine ⟨h1, fun X w0 may a w γ hX hR => wp_seq (wp_mono (h2 X w0 may a w γ hX hR) ?_)⟩
    rintro e a' w' ⟨lv, s', γ', he, hq', hR'⟩
    cases e
    · cases he; exact (ihy q Q s' hQ hq hq').2 X w0 may a' w' γ' hX hR'
    · obtain ⟨hb, rfl⟩ := lvOf_exit he; exact ⟨_, _, _, he, hq', hR'⟩
    · cases he; exact ⟨_, _, _, rfl, hq', hR'⟩
    · cases he; exact ⟨_, _, _, rfl, hq', hR'⟩
    · cases he
    · cases he
  | cond g x y ihx ihy =>
    intro code Q s hQ hc h
    have : ∃ g' p q, code = .cond g' p q ∧ arg g' = some g ∧ comp P wr p = some x.er ∧ comp P wr q = some y.er := by
      cases code with
      | cond g' p q =>
        simp only [comp, C.er] at hc
        split at hc
        · rename_i c a b hc' ha hb
          simp only [Option.some.injEq, C.cond.injEq] at hc
          obtain ⟨rfl, rfl, rfl⟩ := hc
          exact ⟨g', p, q, rfl, hc', ha, hb⟩
        · cases hc
      | region id ops dr => cases dr <;> simp only [comp, C.er] at hc <;> (repeat' (split at hc)) <;> simp_all
      | _ => simp only [comp, C.er] at hc <;> (repeat' (split at hc)) <;> simp_all
    obtain ⟨g', p, q, rfl, hg, hp, hq⟩ := this
    obtain ⟨n, fr, st, ok, log⟩ := s
    simp only [vc] at h
    split at h
    · rename_i b hb
      obtain ⟨h1, h2, h3⟩ := h
      refine ⟨h1, fun X w0 may a w γ hX hR => ?_⟩
      have hgv := arg_rep (eval_opd hR) hg hb
      refine wp_cond_split hgv.bool_inv (fun ht => ?_) (fun hf => ?_)
      · exact (ihx p Q _ hQ hp (h2 ht)).2 X w0 may a w γ hX (hR.same rfl rfl rfl)
      · exact (ihy q Q _ hQ hq (h3 hf)).2 X w0 may a w γ hX (hR.same rfl rfl rfl)
    · exact h.elim
  | block id b ih =>
    intro code Q s hQ hc h
    have : ∃ p, code = .block id p ∧ comp P wr p = some b.er ∧ Nat.ble 1000000 id = false := by
      cases code with
      | block id' p =>
        simp only [comp, C.er] at hc
        split at hc
        · cases hc
        · rename_i hid
          simp only [Option.map_eq_some_iff, C.block.injEq] at hc
          obtain ⟨b', hb, rfl, rfl⟩ := hc
          exact ⟨p, rfl, hb, hid⟩
      | region id ops dr => cases dr <;> simp only [comp, C.er] at hc <;> (repeat' (split at hc)) <;> simp_all
      | _ => simp only [comp, C.er] at hc <;> (repeat' (split at hc)) <;> simp_all
    obtain ⟨p, rfl, hp, hid⟩ := this
    simp only [vc] at h
    obtain ⟨h1, h2⟩ := ih p _ s (fun lv s' hs => by
      cases lv with
      | nrm => exact hQ _ _ hs
      | ex i => simp only at hs; split at hs <;> exact hQ _ _ hs
      | ret => exact hQ _ _ hs) hp h
    refine ⟨h1, fun X w0 may a w γ hX hR => wp_block (wp_mono (h2 X w0 may a w γ hX hR) ?_)⟩
    rintro e a' w' ⟨lv, s', γ', he, hq', hR'⟩
    cases e
    · cases he; exact ⟨_, _, _, rfl, hq', hR'⟩
    · rename_i i
      obtain ⟨hb, rfl⟩ := lvOf_exit he
      simp only [Exit.inBlock]
      simp only at hq'
      split at hq'
      · rename_i hi
        rw [if_pos (Nat.eq_of_beq_eq_true hi)]
        exact ⟨_, _, _, rfl, hq', hR'⟩
      · rename_i hi
        rw [if_neg (fun e => by rw [e, Nat.beq_refl] at hi; cases hi)]
        exact ⟨_, _, _, he, hq', hR'⟩
    · rename_i l
      cases he
      simp only at hq'
      split at hq'
      · rename_i hi
        rw [← Nat.eq_of_beq_eq_true hi, ble_add] at hid
        cases hid
      · exact ⟨_, _, _, rfl, hq', hR'⟩
    · cases he; exact ⟨_, _, _, rfl, hq', hR'⟩
    · cases he
    · cases he
  | loop b ih =>
    intro code Q s hQ hc h
    obtain ⟨n, fr, st, ok, log⟩ := s
    simp only [vc] at h
    exact ⟨h.1, fun X w0 may a w γ hX hR => h.2 hQ code hc X w0 may a w γ hX (hR.same rfl rfl rfl)⟩
  | exit id =>
    intro code Q s hQ hc h
    have : code = .exit id ∧ Nat.ble 1000000 id = false := by
      cases code with
      | exit id' =>
        simp only [comp, C.er] at hc
        split at hc
        · cases hc
        · rename_i hid
          simp only [Option.some.injEq, C.exit.injEq] at hc
          subst hc
          exact ⟨rfl, hid⟩
      | region id ops dr => cases dr <;> simp only [comp, C.er] at hc <;> (repeat' (split at hc)) <;> simp_all
      | _ => simp only [comp, C.er] at hc <;> (repeat' (split at hc)) <;> simp_all
    obtain ⟨rfl, hid⟩ := this
    exact ⟨hQ _ _ h, fun X w0 may a w γ hX hR => wp_exit ⟨_, _, _, lvOf_of hid, h, hR⟩⟩
  | lab l =>
    intro code Q s hQ hc h
    have : code = .label l := by
      cases code with
      | label l' => simp only [comp, C.er, Option.some.injEq, C.lab.injEq] at hc; rw [hc]
      | region id ops dr => cases dr <;> simp only [comp, C.er] at hc <;> (repeat' (split at hc)) <;> simp_all
      | _ => simp only [comp, C.er] at hc <;> (repeat' (split at hc)) <;> simp_all
    subst this
    exact ⟨hQ _ _ h, fun X w0 may a w γ hX hR => wp_label ⟨_, _, _, rfl, h, hR⟩⟩
  | gto l =>
    intro code Q s hQ hc h
    have : code = .goto l := by
      cases code with
      | goto l' => simp only [comp, C.er, Option.some.injEq, C.gto.injEq] at hc; rw [hc]
      | region id ops dr => cases dr <;> simp only [comp, C.er] at hc <;> (repeat' (split at hc)) <;> simp_all
      | _ => simp only [comp, C.er] at hc <;> (repeat' (split at hc)) <;> simp_all
    subst this
    exact ⟨hQ _ _ h, fun X w0 may a w γ hX hR => wp_goto ⟨_, _, _, rfl, h, hR⟩⟩
  | scope b ih =>
    intro code Q s hQ hc h
    by_cases hl : ∃ l, b.labOf = some l
    · obtain ⟨l, hl⟩ := hl
      obtain ⟨n, fr, st, ok, log⟩ := s
      simp only [vc, hl] at h
      exact ⟨h.1, fun X w0 may a w γ hX hR => h.2 hQ code hc X w0 may a w γ hX (hR.same rfl rfl rfl)⟩
    have hn : b.labOf = none := by
      cases e : b.labOf with
      | none => rfl
      | some l => exact (hl ⟨l, e⟩).elim
    have : ∃ p, code = .scope p ∧ comp P wr p = some b.er := by
      cases code with
      | scope p =>
        simp only [comp, C.er, Option.map_eq_some_iff, C.scope.injEq] at hc
        obtain ⟨b', hb, rfl⟩ := hc
        exact ⟨p, rfl, hb⟩
      | region id ops dr => cases dr <;> simp only [comp, C.er] at hc <;> (repeat' (split at hc)) <;> simp_all
      | _ => simp only [comp, C.er] at hc <;> (repeat' (split at hc)) <;> simp_all
    obtain ⟨p, rfl, hp⟩ := this
    simp only [vc, hn] at h
    obtain ⟨h1, h2⟩ := ih p (outs Q) s (fun lv s' hs => by
      cases lv with
      | nrm => exact hQ _ _ hs
      | ex i =>
        simp only [outs] at hs
        split at hs
        · exact hs.elim
        · exact hQ _ _ hs
      | ret => exact hQ _ _ hs) hp h
    refine ⟨h1, fun X w0 may a w γ hX hR => wp_scope_straight (wp_mono (h2 X w0 may a w γ hX hR) ?_)⟩
    rintro e a' w' ⟨lv, s', γ', he, hq', hR'⟩
    cases e
    · cases he; exact ⟨_, _, _, rfl, hq', hR'⟩
    · obtain ⟨hb, rfl⟩ := lvOf_exit he
      simp only [outs, hb] at hq'
      exact ⟨_, _, _, he, hq', hR'⟩
    · cases he
      simp only [outs, ble_add] at hq'
    · cases he; exact ⟨_, _, _, rfl, hq', hR'⟩
    · cases he
    · cases he
  | ret =>
    intro code Q s hQ hc h
    have : code = .ret := by
      cases code with
      | ret => rfl
      | region id ops dr => cases dr <;> simp only [comp, C.er] at hc <;> (repeat' (split at hc)) <;> simp_all
      | _ => simp only [comp, C.er] at hc <;> (repeat' (split at hc)) <;> simp_all
    subst this
    exact ⟨hQ _ _ h, fun X w0 may a w γ hX hR => wp_ret ⟨_, _, _, rfl, h, hR⟩⟩
  | bad =>
    intro code Q s hQ hc h
    exact h.elim
  | raw b =>
    intro code Q s hQ hc h
    obtain ⟨n, fr, st, ok, log⟩ := s
    simp only [vc] at h
    exact ⟨h.1, fun X w0 may a w γ hX hR => h.2 hQ code hc X w0 may a w γ hX (hR.same rfl rfl rfl)⟩
  | cut b ih =>
    intro code Q s hQ hc h
    obtain ⟨n, fr, st, ok, log⟩ := s
    simp only [vc] at h
    exact ⟨h.1, fun X w0 may a w γ hX hR => h.2 hQ code hc X w0 may a w γ hX (hR.same rfl rfl rfl)⟩
end
end Pv
end Go.Proofs.YtcfcmafmdpbjoaaDoor
/- ONE PURE STATE SAYS NO MORE THAN ANOTHER. -/
set_option linter.unusedSimpArgs false
set_option linter.unusedVariables false
namespace Go.Proofs.YtcfcmafmdpbjoaaDoor
namespace Pv
open Go.RowKit
def RowEq (n : Nat) (f f' : Nat → List PV) : Prop := ∀ i, i < n → f i = f' i
def MpEq (ks : List KK) (h : List PC → Bool) (f : List PC → List PC) (h' : List PC → Bool) (f' : List PC → List PC) : Prop := ∀ kl, okK ks kl = true → h kl = h' kl ∧ f kl = f' kl
mutual
def PLe (st : Nat → Option SE) (kp : Nat → Bool) : PV → PV → Prop
  | .agg cs, q => match q with
    | .agg cs' => PLeL st kp cs cs'
    | .junk => True
    | _ => False
  | .tup cs, q => match q with
    | .tup cs' => PLeL st kp cs cs'
    | .junk => True
    | _ => False
  | .fn f a b, q => match q with
    | .fn f' a' b' => f = f' ∧ PLeL st kp a a' ∧ PLeL st kp b b'
    | .junk => True
    | _ => False
  | .cnd g p, q => match q with
    | .cnd g' p' => g = g' ∧ PLe st kp p p'
    | .junk => True
    | _ => False
  | .int k n, q => match q with
    | .int k' n' => k = k' ∧ n = n'
    | .junk => True
    | _ => False
  | .bool b, q => match q with
    | .bool b' => b = b'
    | .junk => True
    | _ => False
  | .str s, q => match q with
    | .str s' => s = s'
    | .junk => True
    | _ => False
  | .sl τ z n f, q => match q with
    | .sl τ' z' n' f' => τ ≤ τ' ∧ z = z' ∧ n = n' ∧ RowEq n f f'
    | .junk => True
    | _ => False
  | .nil _, q => match q with
    | .nil _ => True
    | .sl _ _ n' _ => n' = 0
    | .junk => True
    | _ => False
  | .os r, q => match q with
    | .os r' => r = r' ∧ kp r = true
    | .sl τ' z' n' f' => kp r = false ∧ (match st r with
      | some (.row τ _ z n f) => τ ≤ τ' ∧ z = z' ∧ n = n' ∧ RowEq n f f'
      | _ => False)
    | .junk => True
    | _ => False
  | .vw h r lo n, q => match q with
    | .vw h' r' lo' n' => h = h' ∧ r = r' ∧ lo = lo' ∧ n = n' ∧ kp r = true
    | .junk => True
    | _ => False
  | .rf m r, q => match q with
    | .rf m' r' => m = m' ∧ r = r' ∧ kp r = true
    | .junk => True
    | _ => False
  | .mpv ks vks ka va h f, q => match q with
    | .mpv ks' vks' ka' va' h' f' => ks = ks' ∧ vks = vks' ∧ ka = ka' ∧ va = va' ∧ MpEq ks h f h' f'
    | _ => False
  | .pt r i j, q => match q with
    | .pt r' i' j' => r = r' ∧ i = i' ∧ j = j' ∧ kp r = true
    | .junk => True
    | _ => False
  | .rp τ cs, q => match q with
    | .rp τ' cs' => τ ≤ τ' ∧ cs = cs'
    | .junk => True
    | _ => False
  | .raw v, q => match q with
    | .raw v' => v = v'
    | .junk => True
    | _ => False
  | .junk, q => match q with
    | .junk => True
    | _ => False
def PLeL (st : Nat → Option SE) (kp : Nat → Bool) : List PV → List PV → Prop
  | [], l => match l with
    | [] => True
    | _ :: _ => False
  | p :: ps, l => match l with
    | [] => False
    | q :: qs => PLe st kp p q ∧ PLeL st kp ps qs
end
def SLe (st : Nat → Option SE) (kp : Nat → Bool) : SE → SE → Prop
  | .box l, e => match e with
    | .box l' => PLeL st kp l l'
    | .row .. => False
    | .bld .. => False
  | .row τ e z n f, e2 => match e2 with
    | .row τ' e' z' n' f' => τ ≤ τ' ∧ e = e' ∧ z = z' ∧ n = n' ∧ RowEq n f f'
    | .box _ => False
    | .bld .. => False
  | .bld T e s, e2 => match e2 with
    | .bld T' e' s' => T = T' ∧ e = e' ∧ s = s'
    | .box _ => False
    | .row .. => False
theorem PLeL_len {st : Nat → Option SE} {kp : Nat → Bool} : ∀ {l l' : List PV}, PLeL st kp l l' → l'.length = l.length
  | [], [], _ => rfl
  | [], _ :: _, h => by simp [PLeL] at h
  | _ :: _, [], h => by simp [PLeL] at h
  | p :: ps, q :: qs, h => by simp only [PLeL] at h; simp [PLeL_len h.2]
theorem PLeL_get {st : Nat → Option SE} {kp : Nat → Bool} : ∀ {l l' : List PV}, PLeL st kp l l' → ∀ (k : Nat) (q : PV), l'[k]? = some q → ∃ p, l[k]? = some p ∧ PLe st kp p q
  | [], [], _, k, q, hk => by simp at hk
  | [], _ :: _, h, k, q, hk => by simp [PLeL] at h
  | _ :: _, [], h, k, q, hk => by simp at hk
  | p :: ps, q' :: qs, h, k, q, hk => by
    simp only [PLeL] at h
    cases k with
    | zero => simp only [List.getElem?_cons_zero, Option.some.injEq] at hk; subst hk; exact ⟨p, rfl, h.1⟩
    | succ k => simpa using PLeL_get h.2 k q (by simpa using hk)
theorem flat_le {st : Nat → Option SE} {kp : Nat → Bool} {c : PV} (h : c.flat = true) {τ τ' : Nat} (ht : τ ≤ τ') : PLe st kp (c.mark τ) (c.mark τ') := by
  cases c with
  | fn f a b => obtain ⟨rfl, rfl⟩ := flat_fn h; simp [PV.mark, PLe, PLeL]
  | _ => first | (simp [PV.flat] at h; done) | simp [PV.mark, PLe, RowEq, ht]
section
variable {P : Program} {X : Cx} {γ γ' γk : Gh} {w : World} {st : Nat → Option SE} {kp : Nat → Bool}
theorem Rep.own_less {p : PV} {v : Value} (h : Rep X γ w p v) (ho : ∀ b, γ'.own b → γ.own b) : p.flat = true → Rep X γ' w p v := by
  induction h with
  | int k n => intro _; exact .int k n
  | bool b => intro _; exact .bool b
  | str s => intro _; exact .str s
  | sl τ z n f ad cap vs hcap hz hf hb h ih =>
    intro _
    refine .sl τ z n f ad cap vs hcap hz hf (fun hn => ?_) (fun i j c hi hc => ih i j c hi hc (flat_mark (hf i hi c (List.mem_of_getElem? hc)) τ))
    obtain ⟨a, rfl, hm, hlt, hc⟩ := hb hn
    exact ⟨a, rfl, ⟨fun h => hm.1 (ho _ h), hm.2⟩, hlt, hc⟩
  | fn f first caps vs us hl hl' h h' ih ih' =>
    intro hf
    obtain ⟨rfl, rfl⟩ := flat_fn hf
    exact (Rep.fn (X := X) (γ := γ) (w := w) f [] [] vs us hl hl' h h').fn_nil
  | _ => intro hf; simp [PV.flat] at hf
theorem Rep.le {p : PV} {v : Value} (h : Rep X γ w p v) (hst : RepSt X γ w st) (hlo : ∀ r ge b τ e z n f, γ r = some ge → st r = some (.row τ e z n f) → ge.blk = some b → X.my b)
    (hk1 : ∀ r ge, γ r = some ge → kp r = true → γk r = some ge) (hk2 : ∀ r ge, γk r = some ge → γ r = some ge ∧ kp r = true) : ∀ q, PLe st kp p q → Rep X γk w q v := by
  have hown : ∀ b, γk.own b → γ.own b := fun b ⟨r, ge, hr, hb⟩ => ⟨r, ge, (hk2 r ge hr).1, hb⟩
  have hlie : ∀ τ τ' b, τ ≤ τ' → mayLie X γ τ b → mayLie X γk τ' b := fun τ τ' b ht hm => ⟨fun h => hm.1 (hown b h), (hm.mono ht).2⟩
  have hrow : ∀ {τ τ' z n : Nat} {f f' : Nat → List PV} {v : Value} {ad : Option Addr} {cap : Nat} {vs : Nat → Value}, τ ≤ τ' → RowEq n f f' → (∀ i, i < n → (f i).length = z) → (∀ i, i < n → ∀ c ∈ f i, c.flat = true) → n ≤ cap →
      (0 < n → ∃ a, ad = some a ∧ mayLie X γk τ' a.block ∧ a.block < w.heap.size ∧ ∀ k, k < n * z → cellT τ' w (a.add k) = some (vs k)) →
      (∀ (i j : Nat) (c : PV), i < n → (f i)[j]? = some c → Rep X γk w (c.mark τ') (vs (i * z + j))) → Rep X γk w (.sl τ' z n f') (.slice ad n cap) := by
    intro τ τ' z n f f' v ad cap vs ht hrw hz hf hcap hb h
    refine .sl τ' z n f' ad cap vs hcap (fun i hi => by rw [← hrw i hi]; exact hz i hi) (fun i hi c hc => hf i hi c (by rw [hrw i hi]; exact hc)) hb (fun i j c hi hc => h i j c hi (by rw [hrw i hi]; exact hc))
  induction h with
  | int k n => intro q hq; unfold PLe at hq; split at hq <;> first | (obtain ⟨rfl, rfl⟩ := hq; exact .int _ _) | exact .junk _ | exact hq.elim
  | bool b => intro q hq; unfold PLe at hq; split at hq <;> first | (subst hq; exact .bool _) | exact .junk _ | exact hq.elim
  | str s => intro q hq; unfold PLe at hq; split at hq <;> first | (subst hq; exact .str _) | exact .junk _ | exact hq.elim
  | agg cs vs hl hc h ih =>
    intro q hq; unfold PLe at hq; split at hq
    · refine .agg _ vs (by rw [PLeL_len hq]; exact hl) hc fun k c u hk hu => ?_
      obtain ⟨p, hp, hle⟩ := PLeL_get hq k c hk
      exact ih k p u hp hu c hle
    · exact .junk _
    · exact hq.elim
  | tup cs vs hl h ih =>
    intro q hq; unfold PLe at hq; split at hq
    · refine .tup _ vs (by rw [PLeL_len hq]; exact hl) fun k c u hk hu => ?_
      obtain ⟨p, hp, hle⟩ := PLeL_get hq k c hk
      exact ih k p u hp hu c hle
    · exact .junk _
    · exact hq.elim
  | sl τ z n f ad cap vs hcap hz hf hb h ih =>
    intro q hq; unfold PLe at hq; split at hq
    · obtain ⟨ht, rfl, rfl, hrw⟩ := hq
      refine hrow (v := .slice ad n cap) ht hrw hz hf hcap (fun hn => ?_) (fun i j c hi hc => ih i j c hi hc _ (flat_le (hf i hi c (List.mem_of_getElem? hc)) ht))
      obtain ⟨a, rfl, hm, hlt, hc⟩ := hb hn
      exact ⟨a, rfl, hlie _ _ _ ht hm, hlt, fun k hk => cellT_up ht (hc k hk)⟩
    · exact .junk _
    · exact hq.elim
  | nil z =>
    intro q hq; unfold PLe at hq; split at hq
    · exact .nil _
    · subst hq; exact .sl _ _ 0 _ none 0 (fun _ => undef) (Nat.le_refl _) (fun i hi => by omega) (fun i hi => by omega) (fun hi => by omega) (fun i j c hi => by omega)
    · exact .junk _
    · exact hq.elim
  | os r ge hg h1 h2' =>
    intro q hq; unfold PLe at hq; split at hq
    · obtain ⟨rfl, hk⟩ := hq
      exact .os _ ge (hk1 _ _ hg hk) h1 h2'
    · rename_i τ' z' n' f'
      obtain ⟨hk, hq⟩ := hq
      split at hq
      · rename_i τ e z n f hs
        obtain ⟨ht, rfl, rfl, hrw⟩ := hq
        obtain ⟨vs, b1, b2, b3, ho, hr⟩ := (hst.at_ _ _ _ hg hs).rows
        obtain ⟨ad, cap, hv, hnc, _, hor⟩ := own_slice ho
        rw [hv]
        have hget : ∀ k, k < n * z → vs[k]? = some (vs.getD k undef) := fun k hk => by
          have : k < vs.length := by rw [hr.len]; exact hk
          simp [List.getD_eq_getElem?_getD, this]
        refine hrow (v := .slice ad n cap) (vs := fun k => vs.getD k undef) ht hrw hr.hz hr.hf hnc (fun hn => ?_) (fun i j c hi hc => ?_)
        · rcases hor with h0 | ⟨g, rfl, hlt, hbl⟩
          · omega
          · refine ⟨_, rfl, ⟨fun hown' => ?_, .inl (hlo r ge g _ _ _ _ _ hg hs (by rw [b2, hbl]))⟩, hlt, fun k hk => own_cellsT ho hv rfl k _ (hget k hk)⟩
            obtain ⟨r', ge', hr', hb'⟩ := hown'
            obtain ⟨e1, e2⟩ := hk2 r' ge' hr'
            have := hst.inj r r' ge ge' g hg e1 (.inl (by rw [b2, hbl])) hb'
            subst this
            rw [hk] at e2; cases e2
        · have hj : j < z := by rw [← hr.hz i hi]; exact (List.getElem?_eq_some_iff.1 hc).1
          have := hr.rep i j c _ hi hc (hget _ (idx_lt hi hj))
          have hfl := hr.hf i hi c (List.mem_of_getElem? hc)
          have h2 := this.mark_up τ' (Nat.le_trans (tau_mark c _) ht)
          rw [mark_mark] at h2
          exact h2.own_less hown (flat_mark hfl _)
      · exact hq.elim
    · exact .junk _
    · exact hq.elim
  | pt r i j ge b hg hb =>
    intro q hq; unfold PLe at hq; split at hq
    · obtain ⟨rfl, rfl, rfl, hk⟩ := hq
      exact .pt _ _ _ ge b (hk1 _ _ hg hk) hb
    · exact .junk _
    · exact hq.elim
  | rf r ge b hg hb =>
    intro q hq; unfold PLe at hq; split at hq
    · obtain ⟨rfl, rfl, hk⟩ := hq
      exact .rf _ ge b (hk1 _ _ hg hk) hb
    · exact .junk _
    · exact hq.elim
  | rfs z n r ge b hg hb =>
    intro q hq; unfold PLe at hq; split at hq
    · obtain ⟨rfl, rfl, hk⟩ := hq
      exact .rfs z n _ ge b (hk1 _ _ hg hk) hb
    · exact .junk _
    · exact hq.elim
  | rp τ cs a vs hf hb hc h ih =>
    intro q hq; unfold PLe at hq; split at hq
    · obtain ⟨ht, rfl⟩ := hq
      refine .rp _ _ a vs hf (fun hn => ?_) (fun k hk => cellT_up ht (hc k hk)) (fun k c hk => ih k c hk _ (flat_le (hf c (List.mem_of_getElem? hk)) ht))
      obtain ⟨hm, hlt⟩ := hb hn
      exact ⟨hlie _ _ _ ht hm, hlt⟩
    · exact .junk _
    · exact hq.elim
  | fn f first caps vs us hl hl' h h' ih ih' =>
    intro q hq; unfold PLe at hq; split at hq
    · obtain ⟨rfl, q1, q2⟩ := hq
      refine .fn _ _ _ vs us (by rw [PLeL_len q1]; exact hl) (by rw [PLeL_len q2]; exact hl') (fun k c u hk hu => ?_) (fun k c u hk hu => ?_)
      · obtain ⟨p, hp, hle⟩ := PLeL_get q1 k c hk
        exact ih k p u hp hu c hle
      · obtain ⟨p, hp, hle⟩ := PLeL_get q2 k c hk
        exact ih' k p u hp hu c hle
    · exact .junk _
    · exact hq.elim
  | vw h r lo n ge ad m cap hg hh hle h0 h2 =>
    intro q hq; unfold PLe at hq; split at hq
    · obtain ⟨rfl, rfl, rfl, rfl, hk⟩ := hq
      exact .vw _ _ _ _ ge ad m cap (hk1 _ _ hg hk) hh hle h0 h2
    · exact .junk _
    · exact hq.elim
  | raw v h1 => intro q hq; unfold PLe at hq; split at hq <;> first | (subst hq; exact .raw _ h1) | exact .junk _ | exact hq.elim
  | cnd g p v h hu ih =>
    intro q hq; unfold PLe at hq; split at hq
    · obtain ⟨rfl, hq⟩ := hq
      exact .cnd _ _ _ (fun hg => ih hg _ hq) hu
    · exact .junk _
    · exact hq.elim
  | junk v => intro q hq; unfold PLe at hq; split at hq <;> first | exact .junk _ | exact hq.elim
theorem RepL.le {l l' : List PV} {us : List Value} (h : RepL X γ w l us) (hst : RepSt X γ w st) (hlo : ∀ r ge b τ e z n f, γ r = some ge → st r = some (.row τ e z n f) → ge.blk = some b → X.my b)
    (hk1 : ∀ r ge, γ r = some ge → kp r = true → γk r = some ge) (hk2 : ∀ r ge, γk r = some ge → γ r = some ge ∧ kp r = true) (hl : PLeL st kp l l') : RepL X γk w l' us :=
  ⟨by rw [PLeL_len hl]; exact h.1, fun k c u hk hu => by
    obtain ⟨p, hp, hle⟩ := PLeL_get hl k c hk
    exact (h.2 k p u hp hu).le hst hlo hk1 hk2 c hle⟩
mutual
theorem Rep.unren {ρ : Nat → Nat} (ho : ∀ b, γ'.own b → γ.own b) : ∀ (p : PV) (v : Value), Rep X γ w (p.ren ρ) v → (∀ r ∈ p.ids, ∀ ge, γ (ρ r) = some ge → γ' r = some ge) → Rep X γ' w p v
  | .int k n, v, h, hi => by simp only [PV.ren] at h; cases h.int_inv; exact .int _ _
  | .bool b, v, h, hi => by simp only [PV.ren] at h; cases h.bool_inv; exact .bool _
  | .str s, v, h, hi => by simp only [PV.ren] at h; cases h.str_inv; exact .str _
  | .agg cs, v, h, hi => by
    simp only [PV.ren] at h
    obtain ⟨vs, rfl, hr, h1⟩ := h.agg_inv
    have := RepL.unren ho cs vs hr (fun r hr => hi r (by simpa [PV.ids] using hr))
    exact .agg _ _ this.1 h1 this.2
  | .tup cs, v, h, hi => by
    simp only [PV.ren] at h
    obtain ⟨vs, rfl, hr⟩ := h.tup_inv
    have := RepL.unren ho cs vs hr (fun r hr => hi r (by simpa [PV.ids] using hr))
    exact .tup _ _ this.1 this.2
  | .sl τ z n f, v, h, hi => by simp only [PV.ren] at h; exact h.own_less ho rfl
  | .nil z, v, h, hi => by simp only [PV.ren] at h; cases h.nil_inv; exact .nil _
  | .os r, v, h, hi => by
    simp only [PV.ren] at h
    cases h with
    | os _ ge hg h1 h2 => exact .os _ ge (hi r (by simp [PV.ids]) ge hg) h1 h2
  | .vw b r lo n, v, h, hi => by
    simp only [PV.ren] at h
    cases h with
    | vw _ _ _ _ ge ad m cap hg hh hle h0 h2 => exact .vw _ _ _ _ ge ad m cap (hi r (by simp [PV.ids]) ge hg) hh hle h0 h2
  | .pt r i j, v, h, hi => by
    simp only [PV.ren] at h
    cases h with
    | pt _ _ _ ge b hg hb => exact .pt _ _ _ ge b (hi r (by simp [PV.ids]) ge hg) hb
  | .rf m r, v, h, hi => by
    simp only [PV.ren] at h
    cases h with
    | rf _ ge b hg hb => exact .rf _ ge b (hi r (by simp [PV.ids]) ge hg) hb
    | rfs z n _ ge b hg hb => exact .rfs z n _ ge b (hi r (by simp [PV.ids]) ge hg) hb
  | .mpv _ _ _ _ _ _, v, h, hi => by simp only [PV.ren] at h; cases h
  | .rp τ cs, v, h, hi => by
    simp only [PV.ren] at h
    cases h with
    | rp _ _ a vs hf hb hc h =>
      refine .rp _ _ a vs hf (fun hn => ?_) hc (fun k c hk => (h k c hk).own_less ho (flat_mark (hf c (List.mem_of_getElem? hk)) _))
      obtain ⟨hm, hlt⟩ := hb hn
      exact ⟨⟨fun h => hm.1 (ho _ h), hm.2⟩, hlt⟩
  | .fn f a b, v, h, hi => by
    simp only [PV.ren] at h
    cases h with
    | fn _ _ _ vs us hl hl' h h' =>
      have h1 := RepL.unren ho a vs ⟨hl, h⟩ (fun r hr => hi r (by simp [PV.ids, hr]))
      have h2 := RepL.unren ho b us ⟨hl', h'⟩ (fun r hr => hi r (by simp [PV.ids, hr]))
      exact .fn _ _ _ vs us h1.1 h2.1 h1.2 h2.2
  | .raw u, v, h, hi => by
    simp only [PV.ren] at h
    cases h with | raw _ h1 => exact .raw _ h1
  | .cnd g p, v, h, hi => by
    simp only [PV.ren] at h
    cases h with
    | cnd _ _ _ h hu => exact .cnd _ _ _ (fun hg => Rep.unren ho p v (h hg) (fun r hr => hi r (by simpa [PV.ids] using hr))) hu
  | .junk, v, h, hi => .junk _
theorem RepL.unren {ρ : Nat → Nat} (ho : ∀ b, γ'.own b → γ.own b) : ∀ (l : List PV) (us : List Value), RepL X γ w (PV.renL ρ l) us → (∀ r ∈ PV.idsL l, ∀ ge, γ (ρ r) = some ge → γ' r = some ge) → RepL X γ' w l us
  | [], us, h, hi => by
    simp only [PV.renL] at h
    exact ⟨by simpa using h.1, fun k c u hk => by simp at hk⟩
  | p :: ps, us, h, hi => by
    simp only [PV.renL] at h
    obtain ⟨u, us', rfl, h1, h2⟩ := h.cons_inv
    exact RepL.cons_ (Rep.unren ho p u h1 (fun r hr => hi r (by simp [PV.idsL, hr]))) (RepL.unren ho ps us' h2 (fun r hr => hi r (by simp [PV.idsL, hr])))
end
end
end Pv
end Go.Proofs.YtcfcmafmdpbjoaaDoor
/- RULES: taking stock; loops; places where branches meet; a function's body. -/
set_option linter.unusedSimpArgs false
set_option linter.unusedVariables false
namespace Go.Proofs.YtcfcmafmdpbjoaaDoor
namespace Pv
open Go.RowKit
def SE.ids : SE → List Nat
  | .box l => PV.idsL l
  | .bld _ _ _ => []
  | .row .. => []
section
variable {P : Program} {X : Cx} {γ : Gh} {w w0 : World} {may : Nat → Prop} {a : Act} {s s' : PS}
def reG (γ : Gh) (st' : Nat → Option SE) (ρ : Nat → Nat) : Gh := fun r => if (st' r).isSome then γ (ρ r) else none
theorem mpv_le {st : Nat → Option SE} {kp : Nat → Bool} {ρ : Nat → Nat} {ks vks : List KK} {ka va : Bool} {hh : List PC → Bool} {f : List PC → List PC} {l' : List PV} (h : PLeL st kp [.mpv ks vks ka va hh f] (PV.renL ρ l')) :
    ∃ hh' f', l' = [.mpv ks vks ka va hh' f'] ∧ MpEq ks hh f hh' f' := by
  match l' with
  | [] => simp [PV.renL, PLeL] at h
  | [p] =>
    simp only [PV.renL, PLeL] at h
    cases p <;> simp only [PV.ren, PLe, false_and] at h
    obtain ⟨⟨rfl, rfl, rfl, rfl, h5⟩, _⟩ := h
    exact ⟨_, _, rfl, h5⟩
  | _ :: _ :: _ => simp [PV.renL, PLeL] at h
theorem MapRel.eq {ks vks : List KK} {ka va : Bool} {h h' : List PC → Bool} {f f' : List PC → List PC} {es : List MapEntry} (m : MapRel ks vks ka va h f es) (e : MpEq ks h f h' f') : MapRel ks vks ka va h' f' es := by
  refine ⟨fun x hx => ?_, fun kl hk hh => m.has kl hk (by rw [(e kl hk).1]; exact hh), fun kl hk => by rw [← (e kl hk).2]; exact m.val kl hk, fun kl hk hh => by rw [← (e kl hk).2]; exact m.zero kl hk (by rw [(e kl hk).1]; exact hh), m.dis, m.one⟩
  obtain ⟨kl, h1, h2, h3, h4⟩ := m.ent x hx
  exact ⟨kl, h1, h2, by rw [← (e kl h1).1]; exact h3, by rw [← (e kl h1).2]; exact h4⟩
theorem RepSt.ent {st st' : Nat → Option SE} {ρ : Nat → Nat} {kp : Nat → Bool} (h : RepSt X γ w st) (hlo : ∀ r ge b τ e z n f, γ r = some ge → st r = some (.row τ e z n f) → ge.blk = some b → X.my b)
    (hst : ∀ r e', st' r = some e' → ∃ e, st (ρ r) = some e ∧ SLe st kp e (e'.ren ρ) ∧ kp (ρ r) = true ∧ ∀ q ∈ e'.ids, ∃ e2, st' q = some e2)
    (hinj : ∀ r r' e e', st' r = some e → st' r' = some e' → ρ r = ρ r' → r = r') :
    RepSt X (reG γ st' ρ) w st' ∧ (∀ b, (reG γ st' ρ).own b → γ.own b) ∧
      ∀ p q v, Rep X γ w p v → PLe st kp p (PV.ren ρ q) → (∀ r ∈ q.ids, ∃ e, st' r = some e) → Rep X (reG γ st' ρ) w q v := by
  let γk : Gh := fun r => if kp r then γ r else none
  have hk1 : ∀ r ge, γ r = some ge → kp r = true → γk r = some ge := fun r ge hr hk => by simp only [γk, hk, if_true]; exact hr
  have hk2 : ∀ r ge, γk r = some ge → γ r = some ge ∧ kp r = true := fun r ge hr => by
    simp only [γk] at hr
    split at hr
    · rename_i hk; exact ⟨hr, hk⟩
    · cases hr
  have hinv : ∀ r ge, reG γ st' ρ r = some ge → ∃ e', st' r = some e' ∧ γ (ρ r) = some ge ∧ kp (ρ r) = true := fun r ge hr => by
    unfold reG at hr
    split at hr
    · rename_i hs
      obtain ⟨e', he'⟩ := Option.isSome_iff_exists.1 hs
      obtain ⟨_, _, _, hk, _⟩ := hst r e' he'
      exact ⟨e', he', hr, hk⟩
    · cases hr
  have ho : ∀ b, (reG γ st' ρ).own b → γk.own b := fun b ⟨r, ge, hr, hb⟩ => by
    obtain ⟨e', _, h2, h3⟩ := hinv r ge hr
    exact ⟨ρ r, ge, hk1 _ _ h2 h3, hb⟩
  have hok : ∀ b, γk.own b → γ.own b := fun b ⟨r, ge, hr, hb⟩ => ⟨r, ge, (hk2 _ _ hr).1, hb⟩
  have hid : ∀ r e', st' r = some e' → ∀ ge, γk (ρ r) = some ge → reG γ st' ρ r = some ge := fun r e' he ge hg => by
    unfold reG; rw [he]; simp only [Option.isSome_some, if_true]; exact (hk2 _ _ hg).1
  have hrep : ∀ p q v, Rep X γ w p v → PLe st kp p (PV.ren ρ q) → (∀ r ∈ q.ids, ∃ e, st' r = some e) → Rep X (reG γ st' ρ) w q v := fun p q v hp hle hi =>
    Rep.unren ho q v (hp.le h hlo hk1 hk2 _ hle) fun r hr ge hg => by obtain ⟨e, he⟩ := hi r hr; exact hid r e he ge hg
  refine ⟨⟨fun r => ?_, fun r ge e' hg he => ?_, fun r r' ge ge' b hg hg' hb hb' => ?_, fun b hb => h.asOff b (hok b (ho b hb)), fun b hb => h.lt b (hok b (ho b hb)), fun b p hb => ⟨(h.glob b p hb).1, fun hh => (h.glob b p hb).2.1 (hok b (ho b hh)), (h.glob b p hb).2.2⟩⟩, fun b hb => hok b (ho b hb), hrep⟩
  · cases hs : st' r with
    | none => unfold reG; rw [hs]; rfl
    | some e' =>
      obtain ⟨e, he, _⟩ := hst r e' hs
      unfold reG; rw [hs]
      simp only [Option.isSome_some, if_true]
      rw [h.dom, he]; rfl
  · obtain ⟨e1, he1, hg1, hk⟩ := hinv r ge hg
    obtain ⟨e, hes, hle, _, hi⟩ := hst r e' he
    have hold := h.at_ _ ge e hg1 hes
    cases e with
    | box l =>
      cases e' with
      | row _ _ _ _ _ => simp [SLe, SE.ren] at hle
      | bld _ _ _ => simp [SLe, SE.ren] at hle
      | box l' =>
        simp only [SLe, SE.ren] at hle
        obtain ⟨b, h1, ⟨T, vs, h2, h3, h4⟩ | ⟨ks, vks, ka, va, hh, f, es, clock, h2, h3, h4⟩⟩ := hold
        · refine ⟨b, h1, .inl ⟨T, vs, h2, h3, RepL.unren ho l' _ (h4.le h hlo hk1 hk2 hle) fun q hq ge hg => ?_⟩⟩
          obtain ⟨e2, he2⟩ := hi q hq
          exact hid q e2 he2 ge hg
        · subst h2
          obtain ⟨hh', f', rfl, hq⟩ := mpv_le hle
          exact ⟨b, h1, .inr ⟨ks, vks, ka, va, hh', f', es, clock, rfl, h3, h4.eq hq⟩⟩
    | row τ e z n f =>
      cases e' with
      | box _ => simp [SLe, SE.ren] at hle
      | bld _ _ _ => simp [SLe, SE.ren] at hle
      | row τ' e' z' n' f' =>
        simp only [SLe, SE.ren] at hle
        obtain ⟨ht, rfl, rfl, rfl, hrw⟩ := hle
        obtain ⟨vs, h1, h2, h2', h3, h4, h5, h6, h7⟩ := hold
        refine ⟨vs, h1, h2, h2', h3, h4, fun i hi => by rw [← hrw i hi]; exact h5 i hi, fun i hi c hc => h6 i hi c (by rw [hrw i hi]; exact hc), fun i j c u hi hc hu => ?_⟩
        rw [← hrw i hi] at hc
        have hfl := h6 i hi c (List.mem_of_getElem? hc)
        have h8 := (h7 i j c u hi hc hu).mark_up τ' (Nat.le_trans (tau_mark c _) ht)
        rw [mark_mark] at h8
        exact h8.own_less (fun b hb => hok b (ho b hb)) (flat_mark hfl _)
    | bld T t x =>
      cases e' with
      | box _ => simp [SLe, SE.ren] at hle
      | row _ _ _ _ _ => simp [SLe, SE.ren] at hle
      | bld T' t' x' =>
        simp only [SLe, SE.ren] at hle
        obtain ⟨rfl, rfl, rfl⟩ := hle
        exact hold
  · obtain ⟨e1, he1, hg1, hk⟩ := hinv r ge hg
    obtain ⟨e2, he2, hg2, hk'⟩ := hinv r' ge' hg'
    exact hinj r r' e1 e2 he1 he2 (h.inj _ _ ge ge' b hg1 hg2 hb hb')
theorem Rel.ent {ρ : Nat → Nat} {kp : Nat → Bool} (h : Rel X w0 may a w s γ) (hn : s'.n = s.n)
    (hfr : ∀ t p', s'.fr t = some p' → (∃ p, s.fr t = some p ∧ PLe s.st kp p (p'.ren ρ)) ∧ ∀ r ∈ p'.ids, ∃ e, s'.st r = some e)
    (hst : ∀ r e', s'.st r = some e' → ∃ e, s.st (ρ r) = some e ∧ SLe s.st kp e (e'.ren ρ) ∧ kp (ρ r) = true ∧ ∀ q ∈ e'.ids, ∃ e2, s'.st q = some e2)
    (hinj : ∀ r r' e e', s'.st r = some e → s'.st r' = some e' → ρ r = ρ r' → r = r') (hpar : ∀ r, r < X.np → ρ r = r ∧ ∃ e, s'.st r = some e) : ∃ γ', Rel X w0 may a w s' γ' := by
  obtain ⟨h1, h2, h3⟩ := h.st.ent h.rowLo hst hinj
  refine ⟨_, by rw [hn]; exact h.size, h.defers, fun t p' hp => ?_, h1, h.keeps, h.lo, fun r ge b hg hb => ?_, h.asLt, fun r hr => ?_, h.mayP⟩
  · obtain ⟨⟨p, hp1, hle⟩, hi⟩ := hfr t p' hp
    obtain ⟨g1, g2⟩ := h.fr t p hp1
    exact ⟨by rw [hn]; exact g1, h3 _ _ _ g2 hle hi⟩
  · have hsome : (s'.st r).isSome = true ∧ γ (ρ r) = some ge := by
      unfold reG at hg
      split at hg
      · rename_i hs; exact ⟨hs, hg⟩
      · cases hg
    obtain ⟨hs, hg2⟩ := hsome
    rcases h.own (ρ r) ge b hg2 hb with h4 | ⟨h4, ge0, h5, h6⟩
    · exact .inl h4
    · obtain ⟨k1, e1, k2⟩ := hpar (ρ r) h4
      obtain ⟨e2, he2⟩ := Option.isSome_iff_exists.1 hs
      have := hinj r (ρ r) e2 e1 he2 k2 k1.symm
      rw [← this] at h4 h5
      exact .inr ⟨h4, ge0, h5, h6⟩
  · obtain ⟨g1, g2⟩ := hpar r hr
    obtain ⟨e', he'⟩ := g2
    obtain ⟨e, hes, hle, _⟩ := hst r e' he'
    have hp := h.par r hr
    rw [g1] at hes
    rw [hes] at hp
    have hre : reG γ s'.st ρ r = γ r := by unfold reG; rw [he', g1]; rfl
    rw [he', hre]
    cases e with
    | box l =>
      cases e' with
      | box l' => exact hp
      | row _ _ _ _ _ => simp [SLe, SE.ren] at hle
      | bld _ _ _ => simp [SLe, SE.ren] at hle
    | row _ _ _ _ _ => exact hp.elim
    | bld _ _ _ =>
      cases e' with
      | box l' => simp [SLe, SE.ren] at hle
      | row _ _ _ _ _ => simp [SLe, SE.ren] at hle
      | bld _ _ _ => exact hp
mutual
theorem ren_id : ∀ (p : PV), p.ren (fun r => r) = p
  | .agg cs => by simp [PV.ren, ren_idL cs]
  | .tup cs => by simp [PV.ren, ren_idL cs]
  | .fn f a b => by simp [PV.ren, ren_idL a, ren_idL b]
  | .cnd g p => by simp [PV.ren, ren_id p]
  | .rp τ cs => rfl
  | .int k n => rfl
  | .bool b => rfl
  | .str s => rfl
  | .sl o z n f => rfl
  | .nil z => rfl
  | .os r => rfl
  | .vw h r lo n => rfl
  | .rf m r => rfl
  | .mpv _ _ _ _ _ _ => rfl
  | .pt r i j => rfl
  | .raw v => rfl
  | .junk => rfl
theorem ren_idL : ∀ (l : List PV), PV.renL (fun r => r) l = l
  | [] => rfl
  | p :: ps => by simp [PV.renL, ren_id p, ren_idL ps]
end
theorem sren_id (e : SE) : e.ren (fun r => r) = e := by cases e <;> simp [SE.ren, ren_idL]
/-! ### states written out -/
def frL : List (Nat × PV) → Nat → Option PV
  | [] => fun _ => none
  | (t, p) :: l => upd (frL l) t p
def stL : List (Nat × SE) → Nat → Option SE
  | [] => fun _ => none
  | (t, p) :: l => upd (stL l) t p
def St (n : Nat) (fl : List (Nat × PV)) (sl : List (Nat × SE)) : PS := ⟨n, frL fl, stL sl, True, fun _ => none⟩
def keysB : List (Nat × SE) → Nat → Bool
  | [], _ => false
  | (k, _) :: l, r => match Nat.beq r k with
    | true => true
    | false => keysB l r
def keysAll (sl : List (Nat × SE)) : List Nat → Bool
  | [] => true
  | r :: rs => match keysB sl r with
    | true => keysAll sl rs
    | false => false
def idsF (sl : List (Nat × SE)) : List (Nat × PV) → Bool
  | [] => true
  | (_, p) :: l => match keysAll sl p.ids with
    | true => idsF sl l
    | false => false
def idsS (sl : List (Nat × SE)) : List (Nat × SE) → Bool
  | [] => true
  | (_, e) :: l => match keysAll sl e.ids with
    | true => idsS sl l
    | false => false
def parB (sl : List (Nat × SE)) : Nat → Bool
  | 0 => true
  | n + 1 => match keysB sl n with
    | true => parB sl n
    | false => false
def leF (fr : Nat → Option PV) (st : Nat → Option SE) (kp : Nat → Bool) : List (Nat × PV) → Prop
  | [] => True
  | (t, p') :: l => (match fr t with
    | some p => PLe st kp p p'
    | none => False) ∧ leF fr st kp l
def leS (st : Nat → Option SE) (kp : Nat → Bool) : List (Nat × SE) → Prop
  | [] => True
  | (r, e') :: l => (match st r with
    | some e => SLe st kp e e'
    | none => False) ∧ leS st kp l
def Ent (np : Nat) (s : PS) (n : Nat) (fl : List (Nat × PV)) (sl : List (Nat × SE)) : Prop := match s with
  | ⟨n', fr, st, _, _⟩ => n' = n ∧ (idsF sl fl && idsS sl sl && parB sl np) = true ∧ leF fr st (keysB sl) fl ∧ leS st (keysB sl) sl
theorem keysB_some : ∀ {sl : List (Nat × SE)} {r : Nat}, keysB sl r = true ↔ ∃ e, stL sl r = some e
  | [], r => by simp [keysB, stL]
  | (k, e) :: l, r => by
    simp only [keysB, stL, upd_eq]
    by_cases h : r = k
    · subst h; simp
    · have : Nat.beq r k = false := by rw [Bool.eq_false_iff]; intro hh; exact h (Nat.eq_of_beq_eq_true hh)
      rw [this]; simp only [if_neg h]; exact keysB_some
theorem keysAll_mem {sl : List (Nat × SE)} : ∀ {l : List Nat}, keysAll sl l = true → ∀ r ∈ l, ∃ e, stL sl r = some e
  | [], h, r, hr => by simp at hr
  | x :: l, h, r, hr => by
    simp only [keysAll] at h
    split at h
    · rename_i hx
      rcases List.mem_cons.1 hr with rfl | hr
      · exact keysB_some.1 hx
      · exact keysAll_mem h r hr
    · cases h
theorem frL_mem : ∀ {fl : List (Nat × PV)} {t : Nat} {p : PV}, frL fl t = some p → (t, p) ∈ fl
  | [], t, p, h => by simp [frL] at h
  | (k, q) :: l, t, p, h => by
    simp only [frL, upd_eq] at h
    split at h
    · rename_i hk; subst hk; injection h with h; subst h; simp
    · exact List.mem_cons_of_mem _ (frL_mem h)
theorem stL_mem : ∀ {fl : List (Nat × SE)} {t : Nat} {p : SE}, stL fl t = some p → (t, p) ∈ fl
  | [], t, p, h => by simp [stL] at h
  | (k, q) :: l, t, p, h => by
    simp only [stL, upd_eq] at h
    split at h
    · rename_i hk; subst hk; injection h with h; subst h; simp
    · exact List.mem_cons_of_mem _ (stL_mem h)
theorem idsF_mem {sl : List (Nat × SE)} : ∀ {l : List (Nat × PV)}, idsF sl l = true → ∀ x ∈ l, ∀ r ∈ x.2.ids, ∃ e, stL sl r = some e
  | [], h, x, hx => by simp at hx
  | (k, p) :: l, h, x, hx => by
    simp only [idsF] at h
    split at h
    · rename_i hk
      rcases List.mem_cons.1 hx with rfl | hx
      · exact keysAll_mem hk
      · exact idsF_mem h x hx
    · cases h
theorem idsS_mem {sl : List (Nat × SE)} : ∀ {l : List (Nat × SE)}, idsS sl l = true → ∀ x ∈ l, ∀ r ∈ x.2.ids, ∃ e, stL sl r = some e
  | [], h, x, hx => by simp at hx
  | (k, p) :: l, h, x, hx => by
    simp only [idsS] at h
    split at h
    · rename_i hk
      rcases List.mem_cons.1 hx with rfl | hx
      · exact keysAll_mem hk
      · exact idsS_mem h x hx
    · cases h
theorem parB_lt {sl : List (Nat × SE)} : ∀ {n : Nat}, parB sl n = true → ∀ r, r < n → ∃ e, stL sl r = some e
  | 0, h, r, hr => by omega
  | n + 1, h, r, hr => by
    simp only [parB] at h
    split at h
    · rename_i hk
      by_cases hrn : r = n
      · subst hrn; exact keysB_some.1 hk
      · exact parB_lt h r (by omega)
    · cases h
theorem leF_mem {fr : Nat → Option PV} {st : Nat → Option SE} {kp : Nat → Bool} : ∀ {l : List (Nat × PV)}, leF fr st kp l → ∀ x ∈ l, ∃ p, fr x.1 = some p ∧ PLe st kp p x.2
  | [], h, x, hx => by simp at hx
  | (t, p') :: l, h, x, hx => by
    obtain ⟨h1, h2⟩ := h
    rcases List.mem_cons.1 hx with rfl | hx
    · split at h1
      · rename_i p hp; exact ⟨p, hp, h1⟩
      · exact h1.elim
    · exact leF_mem h2 x hx
theorem leS_mem {st : Nat → Option SE} {kp : Nat → Bool} : ∀ {l : List (Nat × SE)}, leS st kp l → ∀ x ∈ l, ∃ p, st x.1 = some p ∧ SLe st kp p x.2
  | [], h, x, hx => by simp at hx
  | (t, p') :: l, h, x, hx => by
    obtain ⟨h1, h2⟩ := h
    rcases List.mem_cons.1 hx with rfl | hx
    · split at h1
      · rename_i p hp; exact ⟨p, hp, h1⟩
      · exact h1.elim
    · exact leS_mem h2 x hx
theorem Ent.rel {n : Nat} {fl : List (Nat × PV)} {sl : List (Nat × SE)} {np : Nat} (he : Ent np s n fl sl) (hnp : X.np = np) (h : Rel X w0 may a w s γ) : ∃ γ', Rel X w0 may a w (St n fl sl) γ' := by
  obtain ⟨n', fr, st, ok, log⟩ := s
  obtain ⟨rfl, hb, hf, hs⟩ := he
  simp only [Bool.and_eq_true] at hb
  obtain ⟨⟨hb1, hb2⟩, hb3⟩ := hb
  refine Rel.ent (s' := St n' fl sl) (ρ := fun r => r) (kp := keysB sl) h rfl (fun t p' hp => ?_) (fun r e' hr => ?_) (fun r r' e e' _ _ hh => hh) (fun r hr => ⟨rfl, parB_lt hb3 r (by omega)⟩)
  · have hm := frL_mem hp
    obtain ⟨p, hp1, hle⟩ := leF_mem hf _ hm
    exact ⟨⟨p, hp1, by rw [ren_id]; exact hle⟩, idsF_mem hb1 _ hm⟩
  · have hm := stL_mem hr
    obtain ⟨e, he1, hle⟩ := leS_mem hs _ hm
    exact ⟨e, he1, by rw [sren_id]; exact hle, keysB_some.2 ⟨_, hr⟩, idsS_mem hb2 _ hm⟩
/-! ### rules -/
variable {wr : Bool} {np n : Nat} {Q : Lv → PS → Prop} {c b : C}
theorem LSem.weak {fl : List (Nat × PV)} {sl : List (Nat × SE)} (hE : Ent np s n fl sl) (h : LSem P wr np c Q (St n fl sl)) : LSem P wr np c Q s := by
  intro hQ code hc X w0 may a w γ hX hR
  obtain ⟨γ', hR'⟩ := hE.rel hX hR
  exact h hQ code hc X w0 may a w γ' hX hR'
theorem LSem.of_vc (hmix : P.follows .mixedOrders = true) (h : vc (PureCall P) (LSem P wr np) c Q s) : LSem P wr np c Q s :=
  fun hQ code hc => (vc_sound hmix c code Q s hQ hc h).2
theorem LSem.cut (hmix : P.follows .mixedOrders = true) {fl : List (Nat × PV)} {sl : List (Nat × SE)} (hE : Ent np s n fl sl) (h : vc (PureCall P) (LSem P wr np) c Q (St n fl sl)) : LSem P wr np c Q s :=
  LSem.weak hE (LSem.of_vc hmix h)
theorem LSem.meet (hmix : P.follows .mixedOrders = true) {α : Type} (I : α → Prop) (fl : α → List (Nat × PV)) (sl : α → List (Nat × SE))
    (h : vc (PureCall P) (LSem P wr np) c (fun lv s' => match lv with
      | .nrm => s'.ok ∧ ∃ x, I x ∧ Ent np s' n (fl x) (sl x)
      | .ex i => Q (.ex i) s'
      | .ret => Q .ret s') s)
    (h' : ∀ x, I x → vc (PureCall P) (LSem P wr np) b Q (St n (fl x) (sl x))) : LSem P wr np (.seq c b) Q s := by
  intro hQ code hc X w0 may a w γ hX hR
  have : ∃ p q, code = .seq p q ∧ comp P wr p = some c.er ∧ comp P wr q = some b.er := by
    cases code with
    | seq p q =>
      simp only [comp, C.er] at hc
      split at hc
      · rename_i a b ha hb
        simp only [Option.some.injEq, C.seq.injEq] at hc
        obtain ⟨rfl, rfl⟩ := hc
        exact ⟨p, q, rfl, ha, hb⟩
      · cases hc
    | region id ops dr => cases dr <;> simp only [comp, C.er] at hc <;> (repeat' (split at hc)) <;> simp_all
    | _ => simp only [comp, C.er] at hc <;> (repeat' (split at hc)) <;> simp_all
  obtain ⟨p, q, rfl, hp, hq⟩ := this
  have h1 := (vc_sound hmix c p _ s (fun lv s' hs => by
    cases lv with
    | nrm => exact hs.1
    | ex i => exact hQ _ _ hs
    | ret => exact hQ _ _ hs) hp h).2 X w0 may a w γ hX hR
  refine wp_seq (wp_mono h1 ?_)
  rintro e a' w' ⟨lv, s', γ', he, hq', hR'⟩
  cases e
  · cases he
    obtain ⟨_, x, hx, hE⟩ := hq'
    obtain ⟨γ2, hR2⟩ := hE.rel hX hR'
    exact LSem.of_vc hmix (h' x hx) hQ q hq X w0 may a' w' γ2 hX hR2
  · obtain ⟨hb, rfl⟩ := lvOf_exit he; exact ⟨_, _, _, he, hq', hR'⟩
  · cases he; exact ⟨_, _, _, rfl, hq', hR'⟩
  · cases he; exact ⟨_, _, _, rfl, hq', hR'⟩
  · cases he
  · cases he
theorem wp_loop_by {α : Type} {c : Code} {Q : Exit → Act → World → Prop} (J : α → Act → World → Prop) (μ : α → Nat) (x0 : α) (h₀ : J x0 a w)
    (round : ∀ x a w, J x a w → c.wp P (Exit.then (fun a' w' => ∃ x', J x' a' w' ∧ μ x' < μ x) Q) a w) : (Code.loop c).wp P Q a w := by
  intro b k cs
  have key : ∀ n x a w, μ x = n → J x a w →
      ∃ e a' w', Q e a' w' ∧ Arrives P (lone (b.at a (.code c :: .inLoop c :: k)) cs w) b k cs e a' w' := by
    intro n
    induction n using Nat.strongRecOn with
    | _ n ih =>
      intro x a w hn hI
      obtain ⟨e, a₁, w₁, hq, harr⟩ := round x a w hI b (.inLoop c :: k) cs
      cases e with
      | normal =>
        obtain ⟨x', hI₁, hlt⟩ := hq
        obtain ⟨e₂, a₂, w₂, hq₂, harr₂⟩ := ih (μ x') (hn ▸ hlt) x' a₁ w₁ rfl hI₁
        exact ⟨e₂, a₂, w₂, hq₂, .of_steps (Steps.trans harr (.one step_inLoop)) harr₂⟩
      | exit id => exact ⟨_, a₁, w₁, hq, .pass (x := .inLoop c) rfl (fun _ _ => .inl (by simp)) harr⟩
      | goto l => exact ⟨_, a₁, w₁, hq, .pass (x := .inLoop c) rfl (fun _ _ => .inl (by simp)) harr⟩
      | ret => exact ⟨_, a₁, w₁, hq, .pass (x := .inLoop c) rfl (fun _ _ => .inl (by simp)) harr⟩
      | panic ch => exact ⟨_, a₁, w₁, hq, .pass (x := .inLoop c) rfl (fun _ _ => .inl (by simp)) harr⟩
      | outgrown => exact ⟨_, a₁, w₁, hq, .pass (x := .inLoop c) rfl (fun _ _ => .inl (by simp)) harr⟩
  obtain ⟨e, a', w', hq, harr⟩ := key _ x0 a w rfl h₀
  exact ⟨e, a', w', hq, .of_steps (.one step_loop) harr⟩
theorem LSem.loop (hmix : P.follows .mixedOrders = true) {α : Type} (I : α → Prop) (fl : α → List (Nat × PV)) (sl : α → List (Nat × SE)) (μ : α → Nat) (x0 : α) (h0 : I x0) (hE : Ent np s n (fl x0) (sl x0))
    (hr : ∀ x, I x → vc (PureCall P) (LSem P wr np) b (fun lv s' => match lv with
      | .nrm => s'.ok ∧ ∃ x', I x' ∧ μ x' < μ x ∧ Ent np s' n (fl x') (sl x')
      | .ex i => Q (.ex i) s'
      | .ret => Q .ret s') (St n (fl x) (sl x))) : LSem P wr np (.loop b) Q s := by
  intro hQ code hc X w0 may a w γ hX hR
  have : ∃ p, code = .loop p ∧ comp P wr p = some b.er := by
    cases code with
    | loop p =>
      simp only [comp, C.er, Option.map_eq_some_iff, C.loop.injEq] at hc
      obtain ⟨b', hb, rfl⟩ := hc
      exact ⟨p, rfl, hb⟩
    | region id ops dr => cases dr <;> simp only [comp, C.er] at hc <;> (repeat' (split at hc)) <;> simp_all
    | _ => simp only [comp, C.er] at hc <;> (repeat' (split at hc)) <;> simp_all
  obtain ⟨p, rfl, hp⟩ := this
  obtain ⟨γ0, hR0⟩ := hE.rel hX hR
  refine wp_loop_by (fun x a w => I x ∧ ∃ γ, Rel X w0 may a w (St n (fl x) (sl x)) γ) μ x0 ⟨h0, γ0, hR0⟩ ?_
  rintro x a w ⟨hI, γ, hR⟩
  have h1 := (vc_sound hmix b p _ _ (fun lv s' hs => by
    cases lv with
    | nrm => exact hs.1
    | ex i => exact hQ _ _ hs
    | ret => exact hQ _ _ hs) hp (hr x hI)).2 X w0 may a w γ hX hR
  refine wp_mono h1 ?_
  rintro e a' w' ⟨lv, s', γ', he, hq', hR'⟩
  cases e
  · cases he
    obtain ⟨_, x', hx', hlt, hE'⟩ := hq'
    obtain ⟨γ2, hR2⟩ := hE'.rel hX hR'
    exact ⟨x', ⟨hx', γ2, hR2⟩, hlt⟩
  · obtain ⟨hb, rfl⟩ := lvOf_exit he; exact ⟨_, _, _, he, hq', hR'⟩
  · cases he; exact ⟨_, _, _, rfl, hq', hR'⟩
  · cases he; exact ⟨_, _, _, rfl, hq', hR'⟩
  · cases he
  · cases he
theorem C.from_none (l : Nat) : ∀ (b : C), C.from l b = none → C.from l b.er = none := by
  intro b
  induction b with
  | seq x y ihx ihy =>
    intro h
    simp only [C.from] at h
    simp only [C.er, C.from]
    split at h
    · cases h
    · rename_i h1
      rw [ihx h1]
      exact ihy h
  | lab l' => exact fun h => h
  | cut b ih =>
    intro h
    simp only [C.from] at h
    simp only [C.er]
    exact ih h
  | _ => intro h; simp only [C.er, C.from]
theorem C.from_er (l : Nat) : ∀ (b r : C), C.from l b = some r → C.from l b.er = some r.er := by
  intro b
  induction b with
  | seq x y ihx ihy =>
    intro r h
    simp only [C.from] at h
    simp only [C.er, C.from]
    split at h
    · rename_i r1 h1
      cases h
      rw [ihx _ h1]
      rfl
    · rename_i h1
      have h2 : C.from l x.er = none := C.from_none l x h1
      rw [h2]
      exact ihy _ h
  | lab l' =>
    intro r h
    simp only [C.from] at h
    simp only [C.er, C.from]
    split at h
    · cases h
      rfl
    · cases h
  | cut b ih =>
    intro r h
    simp only [C.from] at h
    simp only [C.er]
    exact ih r h
  | _ => intro r h; simp only [C.from, reduceCtorEq] at h
theorem from_comp {wr : Bool} (l : Nat) : ∀ (p : Code) (c : C), comp P wr p = some c → (∀ r, C.from l c = some r → ∃ q, findLabel p l = some q ∧ comp P wr q = some r) ∧ (C.from l c = none → findLabel p l = none) := by
  intro p
  induction p with
  | seq x y ihx ihy =>
    intro c hc
    simp only [comp] at hc
    split at hc
    · rename_i cx cy hx hy
      cases hc
      refine ⟨fun r h => ?_, fun h => ?_⟩
      · simp only [C.from] at h
        split at h
        · rename_i r1 h1
          cases h
          obtain ⟨q, hq, hcq⟩ := (ihx _ hx).1 _ h1
          exact ⟨.seq q y, by simp only [findLabel, hq], by simp only [comp, hcq, hy]⟩
        · rename_i h1
          obtain ⟨q, hq, hcq⟩ := (ihy _ hy).1 _ h
          exact ⟨q, by simp only [findLabel, (ihx _ hx).2 h1, hq], hcq⟩
      · simp only [C.from] at h
        split at h
        · cases h
        · rename_i h1
          simp only [findLabel, (ihx _ hx).2 h1, (ihy _ hy).2 h]
    · cases hc
  | label l' =>
    intro c hc
    simp only [comp, Option.some.injEq] at hc
    subst hc
    refine ⟨fun r h => ?_, fun h => ?_⟩
    · simp only [C.from] at h
      split at h
      · rename_i hl
        cases h
        refine ⟨.skip, ?_, rfl⟩
        simp only [findLabel]
        rw [if_pos (by simpa using Nat.eq_of_beq_eq_true hl)]
      · cases h
    · simp only [C.from] at h
      split at h
      · cases h
      · rename_i hl
        simp only [findLabel]
        rw [if_neg (by intro e; simp only [beq_iff_eq] at e; rw [e, Nat.beq_refl] at hl; cases hl)]
  | region id ops dr =>
    intro c hc
    refine ⟨fun r h => ?_, fun _ => by simp only [findLabel]⟩
    cases dr <;> simp only [comp] at hc <;> (repeat' (split at hc)) <;> cases hc <;> simp only [C.from, reduceCtorEq] at h
  | block id b ih =>
    intro c hc
    refine ⟨fun r h => ?_, fun _ => by simp only [findLabel]⟩
    simp only [comp] at hc
    split at hc
    · cases hc; simp only [C.from, reduceCtorEq] at h
    · obtain ⟨b', _, rfl⟩ := Option.map_eq_some_iff.1 hc; simp only [C.from, reduceCtorEq] at h
  | loop b ih =>
    intro c hc
    refine ⟨fun r h => ?_, fun _ => by simp only [findLabel]⟩
    simp only [comp] at hc
    obtain ⟨b', _, rfl⟩ := Option.map_eq_some_iff.1 hc; simp only [C.from, reduceCtorEq] at h
  | scope b ih =>
    intro c hc
    refine ⟨fun r h => ?_, fun _ => by simp only [findLabel]⟩
    simp only [comp] at hc
    obtain ⟨b', _, rfl⟩ := Option.map_eq_some_iff.1 hc; simp only [C.from, reduceCtorEq] at h
  | _ =>
    intro c hc
    refine ⟨fun r h => ?_, fun _ => by simp only [findLabel]⟩
    simp only [comp] at hc
    (repeat' (split at hc)) <;> cases hc <;> simp only [C.from, reduceCtorEq] at h
theorem wp_jumps_by {α : Type} {c rest : Code} {Q : Exit → Act → World → Prop} {a : Act} {w : World} (l : Nat) (J : α → Act → World → Prop) (μ : α → Nat) (hf : findLabel c l = some rest)
    (first : c.wp P (Exit.jump l (fun a' w' => ∃ x, J x a' w') Q) a w)
    (pass : ∀ x a w, J x a w → rest.wp P (Exit.jump l (fun a' w' => ∃ x', J x' a' w' ∧ μ x' < μ x) Q) a w) : (Code.scope c).wp P Q a w := by
  intro b k cs
  have hg : gotoIn l (.inScope c :: k) = some (.code rest :: .inScope c :: k) := by simp [gotoIn, hf]
  have key : ∀ n x a w, μ x = n → J x a w → ∃ e a' w', Q e a' w' ∧ Arrives P (lone (b.at a (.code rest :: .inScope c :: k)) cs w) b k cs e a' w' := by
    intro n
    induction n using Nat.strongRecOn with
    | _ n ih =>
      intro x a w hn hJ
      obtain ⟨e, a₁, w₁, hq, harr⟩ := pass x a w hJ b (.inScope c :: k) cs
      cases e with
      | normal => exact ⟨.normal, a₁, w₁, hq, Steps.trans harr (.one step_inScope)⟩
      | exit id => exact ⟨.exit id, a₁, w₁, hq, fun k' hk => harr k' (by simp [exitTo, hk])⟩
      | goto l' =>
        obtain ⟨rfl, x', hJ', hlt⟩ := hq
        obtain ⟨e₂, a₂, w₂, hq₂, harr₂⟩ := ih _ (hn ▸ hlt) x' a₁ w₁ rfl hJ'
        exact ⟨e₂, a₂, w₂, hq₂, .of_steps (harr _ hg) harr₂⟩
      | ret => exact ⟨_, a₁, w₁, hq, harr⟩
      | panic ch => exact ⟨_, a₁, w₁, hq, harr⟩
      | outgrown => exact ⟨_, a₁, w₁, hq, harr⟩
  obtain ⟨e, a₁, w₁, hq, harr⟩ := first b (.inScope c :: k) cs
  cases e with
  | normal => exact ⟨.normal, a₁, w₁, hq, .head step_scope (Steps.trans harr (.one step_inScope))⟩
  | exit id => exact ⟨.exit id, a₁, w₁, hq, fun k' hk => .head step_scope (harr k' (by simp [exitTo, hk]))⟩
  | goto l' =>
    obtain ⟨rfl, x', hJ'⟩ := hq
    obtain ⟨e₂, a₂, w₂, hq₂, harr₂⟩ := key _ x' a₁ w₁ rfl hJ'
    exact ⟨e₂, a₂, w₂, hq₂, .of_steps (.head step_scope (harr _ hg)) harr₂⟩
  | ret => exact ⟨_, a₁, w₁, hq, .of_steps (.one step_scope) harr⟩
  | panic ch => exact ⟨_, a₁, w₁, hq, .of_steps (.one step_scope) harr⟩
  | outgrown => exact ⟨_, a₁, w₁, hq, .of_steps (.one step_scope) harr⟩
theorem post_jumps {Q : Lv → PS → Prop} {J : PS → Prop} {K : Act → World → Prop} {l : Nat} {X : Cx} {w0 : World} {may : Nat → Prop} {e : Exit} {a' : Act} {w' : World}
    (hJ : ∀ s' γ, J s' → Rel X w0 may a' w' s' γ → K a' w') (h : post X w0 may (jmps l J Q) e a' w') : Exit.jump l K (post X w0 may Q) e a' w' := by
  obtain ⟨lv, s', γ', he, hq', hR'⟩ := h
  cases e
  · cases he; exact ⟨_, _, _, rfl, hq', hR'⟩
  · obtain ⟨hb, rfl⟩ := lvOf_exit he
    simp only [jmps, hb] at hq'
    exact ⟨_, _, _, he, hq', hR'⟩
  · rename_i l'
    cases he
    simp only [jmps, ble_add] at hq'
    split at hq'
    · rename_i hl
      have hl := Nat.eq_of_beq_eq_true hl
      exact ⟨by omega, hJ _ _ hq' hR'⟩
    · exact hq'.elim
  · cases he; exact ⟨_, _, _, rfl, hq', hR'⟩
  · cases he
  · cases he
theorem LSem.jumps (hmix : P.follows .mixedOrders = true) {α : Type} (l : Nat) (r : C) (hr : C.from l b = some r) (I : α → Prop) (fl : α → List (Nat × PV)) (sl : α → List (Nat × SE)) (μ : α → Nat)
    (first : vc (PureCall P) (LSem P wr np) b (jmps l (fun s' => s'.ok ∧ ∃ x, I x ∧ Ent np s' n (fl x) (sl x)) Q) s)
    (pass : ∀ x, I x → vc (PureCall P) (LSem P wr np) r (jmps l (fun s' => s'.ok ∧ ∃ x', I x' ∧ μ x' < μ x ∧ Ent np s' n (fl x') (sl x')) Q) (St n (fl x) (sl x))) : LSem P wr np (.scope b) Q s := by
  intro hQ code hc X w0 may a w γ hX hR
  have : ∃ p, code = .scope p ∧ comp P wr p = some b.er := by
    cases code with
    | scope p =>
      simp only [comp, C.er, Option.map_eq_some_iff, C.scope.injEq] at hc
      obtain ⟨b', hb, rfl⟩ := hc
      exact ⟨p, rfl, hb⟩
    | region id ops dr => cases dr <;> simp only [comp, C.er] at hc <;> (repeat' (split at hc)) <;> simp_all
    | _ => simp only [comp, C.er] at hc <;> (repeat' (split at hc)) <;> simp_all
  obtain ⟨p, rfl, hp⟩ := this
  obtain ⟨q, hq, hcq⟩ := (from_comp l p _ hp).1 _ (C.from_er l b r hr)
  have ok' : ∀ (K : PS → Prop), (∀ s, K s → s.ok) → ∀ lv s', jmps l K Q lv s' → s'.ok := fun K hK lv s' hs => by
    cases lv with
    | nrm => exact hQ _ _ hs
    | ex i =>
      simp only [jmps] at hs
      split at hs
      · split at hs
        · exact hK _ hs
        · exact hs.elim
      · exact hQ _ _ hs
    | ret => exact hQ _ _ hs
  refine wp_jumps_by l (fun x a w => I x ∧ ∃ γ, Rel X w0 may a w (St n (fl x) (sl x)) γ) μ hq ?_ ?_
  · refine wp_mono ((vc_sound hmix b p _ s (ok' _ fun _ h => h.1) hp first).2 X w0 may a w γ hX hR) fun e a' w' h => post_jumps (fun s' γ' hs hR' => ?_) h
    obtain ⟨_, x, hx, hE⟩ := hs
    obtain ⟨γ2, hR2⟩ := hE.rel hX hR'
    exact ⟨x, hx, γ2, hR2⟩
  · rintro x a w ⟨hI, γ, hR⟩
    refine wp_mono ((vc_sound hmix r q _ _ (ok' _ fun _ h => h.1) hcq (pass x hI)).2 X w0 may a w γ hX hR) fun e a' w' h => post_jumps (fun s' γ' hs hR' => ?_) h
    obtain ⟨_, x', hx', hlt, hE⟩ := hs
    obtain ⟨γ2, hR2⟩ := hE.rel hX hR'
    exact ⟨x', ⟨hx', γ2, hR2⟩, hlt⟩
theorem LSem.adopt {fr : Nat → Option PV} {st : Nat → Option SE} {ok : Prop} {log : Nat → Option LogE} (t R : Nat) (e : TypeId) (z z' : Nat) (h1 : fr t = some (.nil z')) (h2 : st R = none)
    (h : LSem P wr np c Q ⟨n, upd fr t (.os R), upd st R (.row 0 e z 0 (fun _ => [])), ok, log⟩) : LSem P wr np c Q ⟨n, fr, st, ok, log⟩ := by
  intro hQ code hc X w0 may a w γ hX hR
  have hv := (hR.fr t _ h1).2.nil_inv
  let ge : GE := ⟨none, .slice none 0 0, z⟩
  have hE : EffOK X γ w st (Eff.pure (.os R)) (.slice none 0 0) w (upd γ R ge) (upd st R (.row 0 e z 0 (fun _ => []))) :=
    EffOK.add hR.st hR.hX h2 rfl (Keeps.refl _ _) (fun b hb => by rcases hb with hb | hb <;> cases hb) (fun _ => ⟨[], rfl, rfl, rfl, ⟨by simp, .inl ⟨rfl, rfl⟩⟩, by simp, fun i hi => by omega, fun i hi => by omega, fun i j c u hi => by omega⟩)
      (fun _ => .os R ge (upd_same _ _ _) rfl rfl)
  have hR2 : Rel X w0 may (a.put none (.slice none 0 0)) w ⟨n, fr, upd st R (.row 0 e z 0 (fun _ => [])), ok, log⟩ (upd γ R ge) :=
    hR.after (s' := ⟨n, fr, upd st R (.row 0 e z 0 (fun _ => [])), ok, log⟩) hE rfl fun t p hp => .inr ⟨by simp, p, hp, (void_nil p).symm⟩
  refine h hQ code hc X w0 may a w (upd γ R ge) hX ⟨hR2.size, hR2.defers, fun t' p hp => ?_, hR2.st, hR2.keeps, hR2.lo, hR2.own, hR2.asLt, hR2.par, hR2.mayP⟩
  simp only at hp
  by_cases ht : t' = t
  · subst ht
    rw [upd_same] at hp; injection hp with hp; subst hp
    refine ⟨(hR.fr t' _ h1).1, ?_⟩
    rw [hv]
    exact .os R ge (upd_same _ _ _) rfl rfl
  · rw [upd_ne _ _ ht] at hp; exact hR2.fr t' p hp
end
end Pv
end Go.Proofs.YtcfcmafmdpbjoaaDoor
/- A FUNCTION's CONTRACT, FROM ITS BODY. -/
set_option linter.unusedSimpArgs false
set_option linter.unusedVariables false
namespace Go.Proofs.YtcfcmafmdpbjoaaDoor
namespace Pv
open Go.RowKit
def argF : Nat → List PV → List (Nat × PV)
  | _, [] => []
  | k, p :: ps => (k, p) :: argF (k + 1) ps
def boxF : Nat → List SE → List (Nat × SE)
  | _, [] => []
  | k, p :: ps => (k, p) :: boxF (k + 1) ps
theorem argF_get : ∀ (l : List PV) (k t : Nat) (p : PV), frL (argF k l) t = some p → k ≤ t ∧ l[t - k]? = some p
  | [], k, t, p, h => by simp [argF, frL] at h
  | q :: l, k, t, p, h => by
    simp only [argF, frL, upd_eq] at h
    split at h
    · rename_i hk; subst hk; injection h with h; subst h; simp
    · obtain ⟨h1, h2⟩ := argF_get l (k + 1) t p h
      refine ⟨by omega, ?_⟩
      rw [show t - k = (t - (k + 1)) + 1 from by omega]; simpa using h2
theorem boxF_get : ∀ (l : List SE) (k t : Nat), stL (boxF k l) t = if k ≤ t then l[t - k]? else none
  | [], k, t => by simp [boxF, stL]
  | q :: l, k, t => by
    simp only [boxF, stL, upd_eq]
    by_cases hk : t = k
    · subst hk; simp
    · rw [if_neg hk, boxF_get l (k + 1) t]
      by_cases h1 : k + 1 ≤ t
      · rw [if_pos h1, if_pos (by omega), show t - k = (t - (k + 1)) + 1 from by omega]; simp
      · rw [if_neg h1, if_neg (by omega)]
/-! ### results -/
def reN (ids : List Nat) (r : Nat) : Nat := match Nat.ble newBase r with
  | true => ids.getD (r - newBase) 0
  | false => r
def elemB (r : Nat) : List Nat → Bool
  | [] => false
  | x :: l => match Nat.beq r x with
    | true => true
    | false => elemB r l
def kpR (np : Nat) (ids : List Nat) (r : Nat) : Bool := match Nat.blt r np with
  | true => true
  | false => elemB r ids
def noDup : List Nat → Bool
  | [] => true
  | x :: l => match elemB x l with
    | true => false
    | false => noDup l
def allGe (np : Nat) : List Nat → Bool
  | [] => true
  | x :: l => match Nat.ble np x with
    | true => allGe np l
    | false => false
def inRes (np m : Nat) : List Nat → Bool
  | [] => true
  | r :: l => match (Nat.blt r np || (Nat.ble newBase r && Nat.blt r (newBase + m))) with
    | true => inRes np m l
    | false => false
def inResS (np m : Nat) : List SE → Bool
  | [] => true
  | e :: l => match inRes np m e.ids with
    | true => inResS np m l
    | false => false
def leBox (st : Nat → Option SE) (kp : Nat → Bool) (ids : List Nat) : Nat → List SE → Prop
  | _, [] => True
  | k, e' :: l => (match st k with
    | some e => SLe st kp e (e'.ren (reN ids))
    | none => False) ∧ leBox st kp ids (k + 1) l
def leNew (st : Nat → Option SE) (kp : Nat → Bool) (all : List Nat) : List Nat → List SE → Prop
  | [], [] => True
  | i :: is, e' :: l => (match st i with
    | some e => SLe st kp e (e'.ren (reN all))
    | none => False) ∧ leNew st kp all is l
  | _, _ => False
def tupOf : List PV → PV
  | [p] => p
  | ps => .tup ps
abbrev RV := Nat × Option (Nat × Bool)
def rvVal (fr : Nat → Option PV) (st : Nat → Option SE) : RV → Option PV
  | (t, none) => fr t
  | (t, some (n, g)) => match fr t with
    | some (.pt r i j) => match st r with
      | some (.box cells) => match i, mpB cells with
        | 0, false => asV n g ((cells.drop j).take n)
        | _, _ => none
      | _ => none
    | _ => none
def rvL (fr : Nat → Option PV) (st : Nat → Option SE) : List RV → Option (List PV)
  | [] => some []
  | a :: r => match rvVal fr st a, rvL fr st r with
    | some p, some ps => some (p :: ps)
    | _, _ => none
def compR (P : Program) : ResultVar → Option RV
  | .tmp t => some (t, none)
  | .cell a t => match isAggO P t with
    | some g => some (a, some (P.cellsOf t, g))
    | none => none
def ResOK (rs : List RV) (np : Nat) (c : CallRes) (ids : List Nat) (s : PS) : Prop := match s with
  | ⟨_, fr, st, _, _⟩ => match rvL fr st rs with
    | none => False
    | some ps => (noDup ids && allGe np ids && (Nat.beq c.st.length np) && Nat.ble np newBase && inRes np c.news.length c.val.ids && inResS np c.news.length c.st && inResS np c.news.length c.news) = true ∧
      PLe st (kpR np ids) (tupOf ps) (c.val.ren (reN ids)) ∧ leBox st (kpR np ids) ids 0 c.st ∧ leNew st (kpR np ids) ids ids c.news
def Fin (rs : List RV) (np : Nat) (c : CallRes) : Lv → PS → Prop
  | .ex _, _ => False
  | .nrm, s => s.ok ∧ ∃ ids, ResOK rs np c ids s
  | .ret, s => s.ok ∧ ∃ ids, ResOK rs np c ids s
theorem elemB_iff {r : Nat} : ∀ {l : List Nat}, elemB r l = true ↔ r ∈ l
  | [] => by simp [elemB]
  | x :: l => by
    simp only [elemB, List.mem_cons]
    by_cases h : r = x
    · subst h; simp
    · have : Nat.beq r x = false := by rw [Bool.eq_false_iff]; intro hh; exact h (Nat.eq_of_beq_eq_true hh)
      rw [this]; simp only [h, false_or]; exact elemB_iff
theorem noDup_iff : ∀ {l : List Nat}, noDup l = true → l.Nodup
  | [], _ => List.nodup_nil
  | x :: l, h => by
    simp only [noDup] at h
    split at h
    · cases h
    · rename_i hx
      exact List.nodup_cons.2 ⟨fun hm => by (rw [elemB_iff.2 hm] at hx; cases hx), noDup_iff h⟩
theorem allGe_iff {np : Nat} : ∀ {l : List Nat}, allGe np l = true → ∀ r ∈ l, np ≤ r
  | [], _, r, hr => by simp at hr
  | x :: l, h, r, hr => by
    simp only [allGe] at h
    split at h
    · rename_i hx
      rcases List.mem_cons.1 hr with rfl | hr
      · exact Nat.le_of_ble_eq_true hx
      · exact allGe_iff h r hr
    · cases h
theorem inRes_iff {np m : Nat} : ∀ {l : List Nat}, inRes np m l = true → ∀ r ∈ l, r < np ∨ (newBase ≤ r ∧ r < newBase + m)
  | [], _, r, hr => by simp at hr
  | x :: l, h, r, hr => by
    simp only [inRes] at h
    split at h
    · rename_i hx
      rcases List.mem_cons.1 hr with rfl | hr
      · rw [Bool.or_eq_true, Bool.and_eq_true] at hx
        rcases hx with hx | ⟨hx, hx'⟩
        · exact .inl (by simpa [Nat.blt_eq] using hx)
        · exact .inr ⟨Nat.le_of_ble_eq_true hx, by simpa [Nat.blt_eq] using hx'⟩
      · exact inRes_iff h r hr
    · cases h
theorem inResS_iff {np m : Nat} : ∀ {l : List SE}, inResS np m l = true → ∀ e ∈ l, ∀ r ∈ e.ids, r < np ∨ (newBase ≤ r ∧ r < newBase + m)
  | [], _, r, hr => by simp at hr
  | x :: l, h, r, hr => by
    simp only [inResS] at h
    split at h
    · rename_i hx
      rcases List.mem_cons.1 hr with rfl | hr
      · exact inRes_iff hx
      · exact inResS_iff h r hr
    · cases h
theorem leBox_get {st : Nat → Option SE} {kp : Nat → Bool} {ids : List Nat} : ∀ {l : List SE} {k : Nat}, leBox st kp ids k l → ∀ (i : Nat) (e' : SE), l[i]? = some e' → ∃ e, st (k + i) = some e ∧ SLe st kp e (e'.ren (reN ids))
  | [], k, h, i, e', hi => by simp at hi
  | x :: l, k, h, i, e', hi => by
    obtain ⟨h1, h2⟩ := h
    cases i with
    | zero =>
      simp only [List.getElem?_cons_zero, Option.some.injEq] at hi; subst hi
      split at h1
      · rename_i e he; exact ⟨e, he, h1⟩
      · exact h1.elim
    | succ i =>
      obtain ⟨e, he, hle⟩ := leBox_get h2 i e' (by simpa using hi)
      exact ⟨e, by rw [show k + (i + 1) = k + 1 + i from by omega]; exact he, hle⟩
theorem leNew_get {st : Nat → Option SE} {kp : Nat → Bool} {all : List Nat} : ∀ {is : List Nat} {l : List SE}, leNew st kp all is l → is.length = l.length ∧ ∀ (i : Nat) (e' : SE), l[i]? = some e' → ∃ r e, is[i]? = some r ∧ st r = some e ∧ SLe st kp e (e'.ren (reN all))
  | [], [], h => ⟨rfl, fun i e' hi => by simp at hi⟩
  | [], _ :: _, h => by simp [leNew] at h
  | _ :: _, [], h => by simp [leNew] at h
  | r :: is, x :: l, h => by
    obtain ⟨h1, h2⟩ := h
    obtain ⟨g1, g2⟩ := leNew_get h2
    refine ⟨by simp [g1], fun i e' hi => ?_⟩
    cases i with
    | zero =>
      simp only [List.getElem?_cons_zero, Option.some.injEq] at hi; subst hi
      split at h1
      · rename_i e he; exact ⟨r, e, rfl, he, h1⟩
      · exact h1.elim
    | succ i =>
      obtain ⟨r', e, k1, k2, k3⟩ := g2 i e' (by simpa using hi)
      exact ⟨r', e, by simpa using k1, k2, k3⟩
section
variable {P : Program} {wr : Bool}
def rvRun (tmps : Array Value) : ResultVar → Sem Value
  | .tmp t => pure (tmps.getD t undef)
  | .cell a t => do loadVar t (← asAddr (tmps.getD a undef))
theorem run_result {X : Cx} {γ : Gh} {w : World} {fr : Nat → Option PV} {st : Nat → Option SE} (hst : RepSt X γ w st) {tmps : Array Value} (hfr : ∀ t p, fr t = some p → Rep X γ w p (tmps.getD t undef)) {r : ResultVar} {v : RV} {p : PV}
    (hv : compR P r = some v) (hp : rvVal fr st v = some p) :
    ∃ u, (rvRun tmps r).run P w = .ok u w ∧ Rep X γ w p u := by
  cases r with
  | tmp t =>
    simp only [compR, Option.some.injEq] at hv; subst hv
    exact ⟨_, rfl, hfr t p hp⟩
  | cell a t =>
    simp only [compR] at hv
    split at hv
    · rename_i g hg
      injection hv with hv; subst hv
      simp only [rvVal] at hp
      split at hp
      · rename_i r i j hr
        split at hp
        · rename_i cells hc
          split at hp
          · rename_i hmp
            have hu := hfr a _ hr
            obtain ⟨v, h1, h2⟩ := ld_box_sound hst hg hu hc ⟨rfl, hmp⟩ hp
            refine ⟨v, ?_, h2⟩
            obtain ⟨ge, b, _, _, he⟩ := pt_inv hu
            show Sem.run P (do loadVar t (← asAddr (tmps.getD a undef))) w = _
            rw [he] at h1 ⊢
            simpa [Instr.loadAt, Instr.sureAddr, asAddr] using h1
          · cases hp
        · cases hp
      · cases hp
    · cases hv
theorem mapM_run {α : Type} {w : World} (g : α → Sem Value) : ∀ (l : List α) (us : List Value), us.length = l.length → (∀ (k : Nat) (x : α) (u : Value), l[k]? = some x → us[k]? = some u → (g x).run P w = .ok u w) → (List.mapM g l).run P w = .ok us w
  | [], us, hl, h => by
    have : us = [] := List.eq_nil_of_length_eq_zero hl
    subst this; rfl
  | x :: l, us, hl, h => by
    cases us with
    | nil => simp at hl
    | cons u us =>
      have h1 := h 0 x u rfl rfl
      have h2 := mapM_run g l us (by simpa using hl) (fun k y v hk hv => h (k + 1) y v (by simpa using hk) (by simpa using hv))
      rw [List.mapM_cons]
      simp [h1, h2]
theorem run_results {X : Cx} {γ : Gh} {w : World} {fr : Nat → Option PV} {st : Nat → Option SE} (hst : RepSt X γ w st) {tmps : Array Value} (hfr : ∀ t p, fr t = some p → Rep X γ w p (tmps.getD t undef)) {fn : Func} {rs : List RV} {ps : List PV}
    (hv : mapO (compR P) fn.results.toList = some rs) (hp : rvL fr st rs = some ps) : ∃ v, (results fn tmps).run P w = .ok v w ∧ Rep X γ w (tupOf ps) v := by
  have hall : ∀ (l : List ResultVar) (rs : List RV) (ps : List PV), mapO (compR P) l = some rs → rvL fr st rs = some ps → ∃ us : List Value, RepL X γ w ps us ∧ us.length = l.length ∧ ∀ (k : Nat) (x : ResultVar) (u : Value), l[k]? = some x → us[k]? = some u → (rvRun tmps x).run P w = .ok u w := by
    intro l
    induction l with
    | nil =>
      intro rs ps h1 h2
      simp only [mapO, Option.some.injEq] at h1; subst h1
      simp only [rvL, Option.some.injEq] at h2; subst h2
      exact ⟨[], RepL.nil_, rfl, fun k x u hk => by simp at hk⟩
    | cons x l ih =>
      intro rs ps h1 h2
      simp only [mapO] at h1
      split at h1
      · rename_i b bs hb hbs
        injection h1 with h1; subst h1
        simp only [rvL] at h2
        split at h2
        · rename_i q qs hq hqs
          injection h2 with h2; subst h2
          obtain ⟨u, hu1, hu2⟩ := run_result (P := P) hst hfr hb hq
          obtain ⟨us, g1, g2, g3⟩ := ih bs qs hbs hqs
          refine ⟨u :: us, RepL.cons_ hu2 g1, by simp [g2], fun k y v hk hv => ?_⟩
          cases k with
          | zero => simp only [List.getElem?_cons_zero, Option.some.injEq] at hk hv; subst hk; subst hv; exact hu1
          | succ k => exact g3 k y v (by simpa using hk) (by simpa using hv)
        · cases h2
      · cases h1
  obtain ⟨us, h1, h2, h3⟩ := hall _ rs ps hv hp
  have h4 := mapM_run (P := P) (w := w) _ _ us h2 h3
  have hl := h1.1
  refine ⟨if h : us.toArray.size = 1 then us.toArray[0] else .tuple us.toArray, ?_, ?_⟩
  · have hres : results fn tmps = (do let vs ← fn.results.mapM (rvRun tmps); pure (if h : vs.size = 1 then vs[0] else .tuple vs)) := by
      unfold results
      have : (fun (x : ResultVar) => match x with
        | .tmp t => (pure (tmps.getD t undef) : Sem Value)
        | .cell a t => do loadVar t (← asAddr (tmps.getD a undef))) = rvRun tmps := by funext x; cases x <;> rfl
      rw [← this]
      rfl
    have e : fn.results = fn.results.toList.toArray := by simp
    rw [hres, e, List.mapM_toArray]
    simp [h4]
  · match ps, us, hl, h1 with
    | [], [], _, h1 => exact .tup _ _ h1.1 h1.2
    | [p], [u], _, h1 =>
      obtain ⟨_, _, hu, hr, _⟩ := h1.cons_inv
      simp only [List.cons.injEq] at hu
      simp only [tupOf]
      rw [hu.1]; exact hr
    | p :: q :: ps, t :: u :: us, _, h1 => exact .tup _ _ h1.1 h1.2
def fits (P : Program) (wr : Bool) (fn : Func) (nargs n : Nat) (rs : List RV) : Option C :=
  match fn.body, mapO (compR P) fn.results.toList with
  | some code, some rs' => if rs' = rs ∧ nargs + (fn.ntmps - nargs) = n ∧ (fn.name == "runtime.NumGoroutine") = false then comp P wr code else none
  | _, _ => none
def okBs (bs : List SE) : Bool := !(bs.any SE.isRow) || Nat.beq (nbx bs) 0
theorem okBs_iff {bs : List SE} (h : okBs bs = true) : bs.any SE.isRow = false ∨ (nbx bs) = 0 := by
  unfold okBs at h
  rw [Bool.or_eq_true] at h
  exact h.imp (fun h => by simpa using h) (fun h => Nat.eq_of_beq_eq_true h)
def BodyC (P : Program) (f : FuncId) (args : Array Value) (w : World) (R : Ending → World → Prop) : Prop :=
  ∃ fn c, P.funcs[f]? = some fn ∧ fn.body = some c ∧ c.wp P (bodyPost P fn R) { tmps := args ++ Array.replicate (fn.ntmps - args.size) undef, defers := [] } w
abbrev PureBody (P : Program) := PureCallC (BodyC P) P
theorem PureBody.call {f : FuncId} {args : List PV} {bs : List SE} {c : CallRes} (h : PureBody P f args bs c) : PureCall P f args bs c :=
  ⟨h.1, fun w γ aas ls vals h1 h2 h3 => by
    obtain ⟨fn, cc, hf, hb, hw⟩ := h.2 w γ aas ls vals h1 h2 h3
    exact calls_of_wp hf hb hw⟩
theorem res_key {fn : Func} {rs : List RV} {bs : List SE} {c : CallRes} {w : World} {γ : Gh} {aas ls : Nat → Prop} {df : List Deferred} (hres : mapO (compR P) fn.results.toList = some rs)
    {a' : Act} {w' : World} {s' : PS} {γ' : Gh} (hR' : Rel ⟨w.heap.size, aas, ls, nbx bs, γ, df⟩ w γ.own a' w' s' γ') (h : ∃ ids, ResOK rs (nbx bs) c ids s') :
    ∃ v, (results fn a'.tmps).run P w' = .ok v w' ∧ ∃ v' γ', Ending.returned v = .returned v' ∧ Rep ⟨w.heap.size, aas, ls, (nbx bs), γ, df⟩ γ' w' c.val v' ∧ RepSt ⟨w.heap.size, aas, ls, (nbx bs), γ, df⟩ γ' w' (resSt c) ∧
      Keeps γ.own w w' ∧ (∀ r, r < (nbx bs) → ParOK (γ' r) (γ r) (resSt c r)) ∧ (∀ r ge b, γ' r = some ge → ge.has b → w.heap.size ≤ b ∨ ((nbx bs) = 0 ∧ γ.own b) ∨ ∃ ge0, γ r = some ge0 ∧ ge0.has b) := by
  revert h
  rintro ⟨ids, hro⟩
  obtain ⟨n', fr, st, ok, log⟩ := s'
  simp only [ResOK] at hro
  split at hro
  · exact hro.elim
  · rename_i ps hps
    obtain ⟨vv, hrun, hrv⟩ := run_results (P := P) (tmps := a'.tmps) hR'.st (fun t p hp => (hR'.fr t p hp).2) hres hps
    refine ⟨vv, hrun, ?_⟩
    obtain ⟨hbool, hval, hbx, hnw⟩ := hro
    simp only [Bool.and_eq_true] at hbool
    obtain ⟨⟨⟨⟨⟨⟨b1, b2⟩, b3⟩, b4⟩, b5⟩, b6⟩, b7⟩ := hbool
    have d1 := noDup_iff b1
    have d2 := allGe_iff b2
    have d3 := Nat.eq_of_beq_eq_true b3
    have d4 := Nat.le_of_ble_eq_true b4
    obtain ⟨d5, d6⟩ := leNew_get hnw
    have hdom : ∀ r, (r < (nbx bs) ∨ (newBase ≤ r ∧ r < newBase + c.news.length)) → ∃ e, resSt c r = some e := fun r hr => by
      unfold resSt
      rcases hr with hr | ⟨hr, hr'⟩
      · rw [if_neg (by omega)]; exact ⟨_, List.getElem?_eq_getElem (by omega)⟩
      · rw [if_pos hr]; exact ⟨_, List.getElem?_eq_getElem (by omega)⟩
    have hre1 : ∀ r, newBase ≤ r → reN ids r = ids.getD (r - newBase) 0 := fun r hr => by unfold reN; rw [Nat.ble_eq_true_of_le hr]
    have hre2 : ∀ r, r < newBase → reN ids r = r := fun r hr => by
      unfold reN
      have : Nat.ble newBase r = false := by rw [Bool.eq_false_iff]; intro hh; have := Nat.le_of_ble_eq_true hh; omega
      rw [this]
    have hcases : ∀ r e', resSt c r = some e' → (r < (nbx bs) ∧ c.st[r]? = some e' ∧ reN ids r = r) ∨ (newBase ≤ r ∧ c.news[r - newBase]? = some e' ∧ ids[r - newBase]? = some (reN ids r)) := fun r e' hr => by
      unfold resSt at hr
      split at hr
      · rename_i hb
        right
        refine ⟨hb, hr, ?_⟩
        have hlt := (List.getElem?_eq_some_iff.1 hr).1
        rw [hre1 r hb]
        have : r - newBase < ids.length := by omega
        simp [List.getD_eq_getElem?_getD, this]
      · rename_i hb
        left
        exact ⟨by rw [← d3]; exact (List.getElem?_eq_some_iff.1 hr).1, hr, hre2 r (by omega)⟩
    have hcl : ∀ e', (e' ∈ c.st ∨ e' ∈ c.news) → ∀ q ∈ e'.ids, ∃ e2, resSt c q = some e2 := fun e' hm q hq => by
      rcases hm with hm | hm
      · exact hdom q (inResS_iff b6 e' hm q hq)
      · exact hdom q (inResS_iff b7 e' hm q hq)
    have hmem : ∀ k r, ids[k]? = some r → elemB r ids = true := fun k r hk => elemB_iff.2 (List.mem_of_getElem? hk)
    obtain ⟨h1, h2, h3⟩ := hR'.st.ent (st' := resSt c) (ρ := reN ids) (kp := kpR (nbx bs) ids) hR'.rowLo (fun r e' hr => by
        rcases hcases r e' hr with ⟨k1, k2, k3⟩ | ⟨k1, k2, k3⟩
        · obtain ⟨e, g1, g2⟩ := leBox_get hbx r e' k2
          rw [Nat.zero_add] at g1
          refine ⟨e, by rw [k3]; exact g1, g2, ?_, hcl e' (.inl (List.mem_of_getElem? k2))⟩
          rw [k3]; unfold kpR
          have : Nat.blt r (nbx bs) = true := by rw [Nat.blt_eq]; exact k1
          rw [this]
        · obtain ⟨r', e, g1, g2, g3⟩ := d6 _ e' k2
          rw [k3] at g1; injection g1 with g1; subst g1
          refine ⟨e, g2, g3, ?_, hcl e' (.inr (List.mem_of_getElem? k2))⟩
          unfold kpR
          split
          · rfl
          · exact hmem _ _ k3)
      (fun r r' e e' hr hr' hh => by
        rcases hcases r e hr with ⟨k1, k2, k3⟩ | ⟨k1, k2, k3⟩ <;> rcases hcases r' e' hr' with ⟨k1', k2', k3'⟩ | ⟨k1', k2', k3'⟩
        · omega
        · have := d2 _ (List.mem_of_getElem? k3'); omega
        · have := d2 _ (List.mem_of_getElem? k3); omega
        · have hi := (List.getElem?_inj (List.getElem?_eq_some_iff.1 k3).1 d1).1 (k3.trans (by rw [hh]; exact k3'.symm))
          omega)
    refine ⟨_, _, rfl, h3 _ _ _ hrv hval (fun r hr => hdom r (inRes_iff b5 r hr)), h1, hR'.keeps, fun r hr => ?_, fun r ge b hg hb => ?_⟩
    · obtain ⟨e', he'⟩ := hdom r (.inl hr)
      have hp := hR'.par r hr
      have hre : reG γ' (resSt c) (reN ids) r = γ' r := by unfold reG; rw [he', hre2 r (by omega)]; rfl
      rw [he', hre]
      rcases hcases r e' he' with ⟨k1, k2, k3⟩ | ⟨k1, _, _⟩
      · obtain ⟨e, g1, g2⟩ := leBox_get hbx r e' k2
        rw [Nat.zero_add] at g1
        replace hp : ParOK (γ' r) (γ r) (some e) := by rw [← g1]; exact hp
        cases e with
        | box l =>
          cases e' with
          | box l' => exact hp
          | row _ _ _ _ _ => simp [SLe, SE.ren] at g2
          | bld _ _ _ => simp [SLe, SE.ren] at g2
        | row _ _ _ _ _ => exact hp.elim
        | bld _ _ _ =>
          cases e' with
          | box l' => simp [SLe, SE.ren] at g2
          | row _ _ _ _ _ => simp [SLe, SE.ren] at g2
          | bld _ _ _ => exact hp
      · omega
    · have hsome : (∃ e', resSt c r = some e') ∧ γ' (reN ids r) = some ge := by
        unfold reG at hg
        split at hg
        · rename_i hs; exact ⟨Option.isSome_iff_exists.1 hs, hg⟩
        · cases hg
      obtain ⟨⟨e', he'⟩, hg2⟩ := hsome
      rcases hR'.own (reN ids r) ge b hg2 hb with (h | ⟨h0, r0, g0, h1, h2⟩) | ⟨h4, ge0, h5, h6⟩
      · exact .inl h
      · exact .inr (.inl ⟨h0, r0, g0, h1, h2⟩)
      · rcases hcases r e' he' with ⟨k1, k2, k3⟩ | ⟨k1, k2, k3⟩
        · rw [k3] at h5; exact .inr (.inr ⟨ge0, h5, h6⟩)
        · have := d2 _ (List.mem_of_getElem? k3)
          have h4' : reN ids r < (nbx bs) := h4
          omega
theorem rel_start {bs : List SE} {args : List PV} {vals : List Value} {w : World} {γ : Gh} {aas ls : Nat → Prop} {n nt : Nat} (hst : RepSt ⟨w.heap.size, aas, ls, nbx bs, γ, []⟩ γ w (fun r => bs[r]?)) (hX : ∀ b, aas b ∨ ls b → b < w.heap.size)
    (hargs : RepL ⟨w.heap.size, aas, ls, nbx bs, γ, []⟩ γ w args vals) (hn : args.length + (nt - args.length) = n) (hbox : okBs bs = true) :
    Rel ⟨w.heap.size, aas, ls, (nbx bs), γ, []⟩ w γ.own { tmps := vals.toArray ++ Array.replicate (nt - vals.toArray.size) undef, defers := [] } w (St n (argF 0 args) (boxF 0 bs)) γ := by
  have hsz : vals.toArray.size = args.length := by simpa using hargs.1
  have hstf : (fun r => bs[r]?) = stL (boxF 0 bs) := by funext r; rw [boxF_get]; simp
  have hltb : ∀ r ge, γ r = some ge → r < bs.length := fun r ge hr => by
    have hd := hst.dom r
    rw [hr] at hd
    obtain ⟨e, he⟩ := Option.isSome_iff_exists.1 hd.symm
    exact (List.getElem?_eq_some_iff.1 he).1
  refine ⟨by simp only [Array.size_append, Array.size_replicate, hsz, St]; exact hn, rfl, fun t p hp => ?_, by rw [hstf] at hst; exact hst, Keeps.refl _ _, rfl, fun r ge b hr hb => (okBs_iff hbox).elim (fun h => .inr ⟨by rw [nbx_rows h]; exact hltb r ge hr, ge, hr, hb⟩) (fun h => .inl (.inr ⟨h, r, ge, hr, hb⟩)), fun b hb => ⟨hX b hb, fun ho => ?_⟩, fun r hr => ?_, fun r ge b hr hg hb => ⟨r, ge, hg, hb⟩⟩
  · obtain ⟨_, h1⟩ := argF_get args 0 t p hp
    rw [Nat.sub_zero] at h1
    have hlt := (List.getElem?_eq_some_iff.1 h1).1
    obtain ⟨u, hu, hr⟩ := hargs.at h1
    refine ⟨by simp only [St]; omega, ?_⟩
    have : (vals.toArray ++ Array.replicate (nt - vals.toArray.size) undef).getD t undef = u := by
      have ht : t < vals.length := by rw [hargs.1]; exact hlt
      rw [Array.getD_eq_getD_getElem?, Array.getElem?_append_left (by simpa using ht)]
      simp [hu]
    simp only [this]; exact hr
  · obtain ⟨h1, h2⟩ := hst.asOff b ho
    exact hb.elim h1 h2
  · have hbox' : bs.any SE.isRow = false := (okBs_iff hbox).elim id fun h => by
      have hr' : r < (nbx bs) := hr
      omega
    have hr : r < bs.length := by rw [← nbx_rows hbox']; exact hr
    have h1 : bs[r]? = some (bs[r]'hr) := List.getElem?_eq_getElem hr
    have h2 := List.any_eq_false.1 hbox' (bs[r]'hr) (List.getElem_mem hr)
    simp only [St, boxF_get, Nat.zero_le, if_true, Nat.sub_zero, h1]
    cases hc : bs[r] with
    | box l => rfl
    | row _ _ _ _ _ => rw [hc] at h2; simp [SE.isRow] at h2
    | bld _ _ _ =>
      have hd := hst.dom r
      rw [h1] at hd
      obtain ⟨ge, hge⟩ := Option.isSome_iff_exists.1 hd
      exact ⟨ge, ge, hge, hge, rfl, rfl⟩
theorem pure_body {f : FuncId} {fn : Func} {cc : C} {args : List PV} {bs : List SE} {c : CallRes} {rs : List RV} {n : Nat} (hmix : P.follows .mixedOrders = true)
    (hf : P.funcs[f]? = some fn) (hfits : fits P wr fn args.length n rs = some cc.er) (hbox : okBs bs = true)
    (h : vc (PureCall P) (LSem P wr (nbx bs)) cc (Fin rs (nbx bs) c) (St n (argF 0 args) (boxF 0 bs))) : PureBody P f args bs c := by
  have hparts : ∃ code, fn.body = some code ∧ mapO (compR P) fn.results.toList = some rs ∧ args.length + (fn.ntmps - args.length) = n ∧ (fn.name == "runtime.NumGoroutine") = false ∧ comp P wr code = some cc.er := by
    unfold fits at hfits
    split at hfits
    · rename_i code rs' h1 h2
      split at hfits
      · rename_i hc
        obtain ⟨rfl, hc2, hc3⟩ := hc
        exact ⟨code, h1, h2, hc2, hc3, hfits⟩
      · cases hfits
    · cases hfits
  obtain ⟨code, hb, hres, hn, hnm, hcomp⟩ := hparts
  refine ⟨⟨fn, hf, by rw [hb]; rfl, hnm⟩, ?_⟩
  intro w γ aas ls vals hst hX hargs
  refine ⟨fn, code, hf, hb, ?_⟩
  have hR := rel_start (n := n) hst hX hargs hn hbox
  have hfinOk : ∀ lv s, Fin rs (nbx bs) c lv s → s.ok := fun lv s hs => by cases lv <;> first | exact hs.1 | exact hs.elim
  refine wp_mono ((vc_sound hmix cc code _ _ hfinOk hcomp h).2 _ _ _ _ _ _ rfl hR) ?_
  rintro e a' w' ⟨lv, s', γ', he, hq, hR'⟩
  cases e
  · cases he; exact ⟨hR'.defers, res_key hres hR' hq.2⟩
  · obtain ⟨hb, rfl⟩ := lvOf_exit he; exact hq.elim
  · cases he; exact hq.elim
  · cases he; exact ⟨hR'.defers, res_key hres hR' hq.2⟩
  · cases he
  · cases he
theorem pure_call {f : FuncId} {fn : Func} {cc : C} {args : List PV} {bs : List SE} {c : CallRes} {rs : List RV} {n : Nat} (hmix : P.follows .mixedOrders = true)
    (hf : P.funcs[f]? = some fn) (hfits : fits P wr fn args.length n rs = some cc.er) (hbox : okBs bs = true)
    (h : vc (PureCall P) (LSem P wr (nbx bs)) cc (Fin rs (nbx bs) c) (St n (argF 0 args) (boxF 0 bs))) : PureCall P f args bs c :=
  (pure_body hmix hf hfits hbox h).call
end
end Pv
end Go.Proofs.YtcfcmafmdpbjoaaDoor
/- SMALL THINGS that every walk uses. -/
set_option linter.unusedSimpArgs false
set_option linter.unusedVariables false
namespace Go.Proofs.YtcfcmafmdpbjoaaDoor
namespace Pv
def mx (a b : Int) : Int := if b > a then b else a
def mn (a b : Int) : Int := if b < a then b else a
theorem mx_eq (a b : Int) : mx a b = max a b := by unfold mx; split <;> omega
theorem mn_eq (a b : Int) : mn a b = min a b := by unfold mn; split <;> omega
theorem inR64 (n : Int) : inR .i64 n ↔ -9223372036854775808 ≤ n ∧ n ≤ 9223372036854775807 := by
  unfold inR; simp [IntKind.min, IntKind.max, IntKind.signed, IntKind.bits]
theorem inR64_of {n : Int} (h1 : -9223372036854775808 ≤ n) (h2 : n ≤ 9223372036854775807) : inR .i64 n := (inR64 n).2 ⟨h1, h2⟩
theorem mul_rng {a b A B : Int} (h0 : 0 ≤ a) (h1 : a ≤ A) (h2 : 0 ≤ b) (h3 : b ≤ B) : 0 ≤ a * b ∧ a * b ≤ A * B :=
  ⟨Int.mul_nonneg h0 h2, Int.mul_le_mul h1 h3 h2 (by omega)⟩
def fl {α : Type} [Inhabited α] (e : α → List PV) (l : List α) : Nat → List PV := fun i => e (l.getD i default)
theorem fl_append {α : Type} [Inhabited α] (e : α → List PV) (l l' : List α) : RowEq (l.length + l'.length) (appF l.length (fl e l) (fl e l')) (fl e (l ++ l')) := fun i hi => by
  unfold appF fl
  split
  · rename_i h; rw [List.getD_eq_getElem?_getD, List.getD_eq_getElem?_getD, List.getElem?_append_left h]
  · rename_i h; rw [List.getD_eq_getElem?_getD, List.getD_eq_getElem?_getD, List.getElem?_append_right (by omega)]
theorem fl_push {α : Type} [Inhabited α] (e : α → List PV) (l : List α) (x : α) : RowEq (l.length + 1) (appF l.length (fl e l) (fun i => [e x].getD i [])) (fl e (l ++ [x])) := fun i hi => by
  have := fl_append e l [x] i (by simpa using hi)
  rw [← this]
  unfold appF
  split
  · rfl
  · rename_i h
    have : i - l.length = 0 := by omega
    simp [this, fl]
theorem leF_cons {fr : Nat → Option PV} {st : Nat → Option SE} {kp : Nat → Bool} {t : Nat} {p p' : PV} {l : List (Nat × PV)} (h : fr t = some p) (h1 : PLe st kp p p') (h2 : leF fr st kp l) : leF fr st kp ((t, p') :: l) :=
  ⟨by rw [h]; exact h1, h2⟩
theorem leS_cons {st : Nat → Option SE} {kp : Nat → Bool} {t : Nat} {p p' : SE} {l : List (Nat × SE)} (h : st t = some p) (h1 : SLe st kp p p') (h2 : leS st kp l) : leS st kp ((t, p') :: l) :=
  ⟨by rw [h]; exact h1, h2⟩
theorem getD_mem {α : Type} [Inhabited α] {l : List α} {i : Nat} (h : i < l.length) : l.getD i default ∈ l := by
  rw [List.getD_eq_getElem?_getD, List.getElem?_eq_getElem h]; exact List.getElem_mem h
theorem getD_some {α : Type} [Inhabited α] {l : List α} {i : Nat} (h : i < l.length) : l[i]? = some (l.getD i default) := by
  rw [List.getD_eq_getElem?_getD, List.getElem?_eq_getElem h]; rfl
theorem PureCall.arg_le {P : Program} {f : FuncId} {args args' : List PV} {bs : List SE} {c : CallRes} (h : PureCall P f args' bs c) (hb : bs.any SE.isRow = false) (hl : PLeL (fun r => bs[r]?) (fun _ => true) args args') : PureCall P f args bs c := by
  refine ⟨h.1, fun w γ aas ls vals hst hX ha => h.2 w γ aas ls vals hst hX ?_⟩
  refine ha.le hst (fun r ge b τ e z n f hr hs hbk => ?_) (fun r ge hr _ => hr) (fun r ge hr => ⟨hr, rfl⟩) hl
  have := List.any_eq_false.1 hb _ (List.mem_of_getElem? hs)
  simp [SE.isRow] at this
def scan (f : Nat → Int) : Nat → Nat → Int
  | _, 0 => 0
  | i, n + 1 => if f i ≠ 0 then f i else scan f (i + 1) n
theorem scan_zero {f : Nat → Int} : ∀ {i n : Nat}, scan f i n = 0 → ∀ k, i ≤ k → k < i + n → f k = 0
  | i, 0, _, k, h1, h2 => by omega
  | i, n + 1, h, k, h1, h2 => by
    simp only [scan] at h
    split at h
    · rename_i hf; exact absurd h hf
    · rename_i hf
      by_cases hk : k = i
      · subst hk; exact Classical.not_not.1 hf
      · exact scan_zero h k (by omega) (by omega)
theorem scan_hit {f : Nat → Int} {i n : Nat} (hn : 0 < n) (h : f i ≠ 0) : scan f i n = f i := by
  cases n with
  | zero => omega
  | succ n => simp [scan, h]
theorem scan_step {f : Nat → Int} {i n : Nat} (hn : 0 < n) (h : f i = 0) : scan f i n = scan f (i + 1) (n - 1) := by
  cases n with
  | zero => omega
  | succ n => simp [scan, h]
theorem rowEq0 (f f' : Nat → List PV) : RowEq 0 f f' := fun i hi => absurd hi (Nat.not_lt_zero i)
theorem maxLen_ge {n : Nat} (h : n ≤ 4611686018427387904) : n ≤ maxLen := Nat.le_trans h (by decide)
theorem dec_iff {p : Prop} [Decidable p] {b : Bool} (h : decide p = b) : if b then p else ¬ p := by
  cases b <;> simpa using h
end Pv
end Go.Proofs.YtcfcmafmdpbjoaaDoor
/- STANDING PIECES OF PROOFS: statements whose premise is shown where they are used, by a standing list of steps. Nothing is claimed here. -/
set_option linter.unusedSimpArgs false
set_option linter.unusedVariables false
namespace Go.Proofs.YtcfcmafmdpbjoaaDoor
namespace Pv
theorem g0 {P : Prop} (h : P := by
  (try conv => whnf)
  (repeat' (first | exact True.intro | exact fun _ h => h | refine inR64_of ?_ ?_ | apply And.intro | refine maxLen_ge ?_)) <;> (first | omega | decide | (dsimp only; omega) | (dsimp only [List.length_cons, List.length_nil]; omega) | (intro hg; rw [hg]; rfl) | (intro hg hh; rw [hg, hh]; rfl) | (intro hg; simp [-List.getD_eq_getElem?_getD, -Int.default_eq_zero] at hg; first | omega | (refine inR64_of ?_ ?_ <;> omega) | (constructor <;> omega)) | (simp [-List.getD_eq_getElem?_getD, -Int.default_eq_zero]; done))) : P := h
theorem g1 {P : Prop} (h : P := by
  (repeat' (first | exact True.intro | exact fun _ h => h | refine inR64_of ?_ ?_ | apply And.intro | refine maxLen_ge ?_)) <;> (first | omega | assumption | (intro _; assumption) | (intro _; refine ⟨?_, ?_⟩ <;> first | omega | decide | assumption) | decide | (dsimp only; omega) | (dsimp only [List.length_cons, List.length_nil]; omega) | (intro _; omega) | (intro hg; simp [-List.getD_eq_getElem?_getD, -Int.default_eq_zero] at hg; first | omega | (refine inR64_of ?_ ?_ <;> omega) | (constructor <;> omega)) | (simp [-List.getD_eq_getElem?_getD, -Int.default_eq_zero]; done))) : P := h
theorem ent {P : Prop} (h : P := by
  repeat' (first | exact True.intro | refine leF_cons rfl ?_ ?_ | refine leS_cons rfl ?_ ?_ | (show PLe _ _ _ _; conv => whnf) | (show SLe _ _ _ _; conv => whnf) | (show PLeL _ _ _ _; conv => whnf) | apply And.intro | rfl | exact Nat.le_refl _ | exact fun _ _ => rfl | exact rowEq0 _ _ | exact fun _ _ => ⟨rfl, rfl⟩ | assumption | omega | (dsimp only; omega) | (simp only [List.length_append, List.length_cons, List.length_nil]; done) | (simp only [List.length_append, List.length_cons, List.length_nil]; omega))) : P := h
theorem ret {P : Prop} (h : P := by
  refine ⟨?_, [], ?_⟩
  · exact g0
  conv => whnf
  refine ⟨rfl, ?_, trivial, trivial⟩
  exact ent) : P := h
theorem retB {P : Prop} (h : P := by
  refine ⟨?_, [], ?_⟩
  · exact g0
  conv => whnf
  refine ⟨rfl, ?_, ?_, trivial⟩ <;> exact ent) : P := h
theorem bp : (∀ {a b c : Bool}, (bif a then b else c) = true ↔ (a = true ∧ b = true) ∨ (a = false ∧ c = true)) ∧ (∀ {a b c : Bool}, (bif a then b else c) = false ↔ (a = true ∧ b = false) ∨ (a = false ∧ c = false))
    ∧ (∀ {p : Prop} [Decidable p], (decide p = true) = p) ∧ (∀ {p : Prop} [Decidable p], (decide p = false) = ¬p) ∧ (∀ {b : Bool}, ((!b) = true) = (b = false)) ∧ (∀ {b : Bool}, ((!b) = false) = (b = true))
    ∧ (∀ {a b : Bool}, ((a && b) = true) = (a = true ∧ b = true)) ∧ (∀ {a b : Bool}, ((a || b) = true) = (a = true ∨ b = true)) ∧ (∀ {a b : Bool}, ((a && b) = false) = (a = false ∨ b = false)) ∧ (∀ {a b : Bool}, ((a || b) = false) = (a = false ∧ b = false))
    ∧ (∀ {a b : Int}, ((a == b) = true) = (a = b)) ∧ (∀ {a b : Int}, ((a != b) = true) = (a ≠ b)) ∧ (∀ {a b : Int}, ((a == b) = false) = (a ≠ b)) ∧ (∀ {a b : Int}, ((a != b) = false) = (a = b))
    ∧ (∀ {a b : List UInt8}, ((a == b) = true) = (a = b)) ∧ (∀ {a b : List UInt8}, ((a != b) = true) = (a ≠ b)) ∧ (∀ {a b : List UInt8}, ((a == b) = false) = (a ≠ b)) ∧ (∀ {a b : List UInt8}, ((a != b) = false) = (a = b))
    ∧ ((true = false) = False) ∧ ((false = true) = False) ∧ ((true = true) = True) ∧ ((false = false) = True) ∧ (∀ p : Prop, (False ∧ p) = False) ∧ (∀ p : Prop, (p ∧ False) = False) ∧ (∀ p : Prop, (True ∧ p) = p) ∧ (∀ p : Prop, (p ∧ True) = p)
    ∧ (∀ p : Prop, (p ∨ False) = p) ∧ (∀ p : Prop, (False ∨ p) = p) ∧ (∀ p : Prop, (p ∨ True) = True) ∧ (∀ p : Prop, (True ∨ p) = True) ∧ ((¬True) = False) ∧ ((¬False) = True) ∧ Int.toNat 0 = 0 := by
  refine ⟨?_, ?_, ?_, ?_, ?_, ?_, ?_, ?_, ?_, ?_, ?_, ?_, ?_, ?_, ?_, ?_, ?_, ?_, ?_, ?_, ?_, ?_, ?_, ?_, ?_, ?_, ?_, ?_, ?_, ?_, ?_, ?_, rfl⟩ <;> intros <;> simp
  · rename_i a b c; cases a <;> simp
  · rename_i a b c; cases a <;> simp
  · rename_i a b; cases a <;> cases b <;> simp
end Pv
end Go.Proofs.YtcfcmafmdpbjoaaDoor
/- THE DECK: lists of numbers to choose by; what New, Next and Mod compute. -/
set_option linter.unusedSimpArgs false
set_option linter.unusedVariables false
namespace Go.Proofs.YtcfcmafmdpbjoaaDoor
namespace Pv
theorem mix : Tryd.prog.follows .mixedOrders = true := by kernel_rfl
def c20 : C := (.seq (.reg [⟨(some 4), 64, none, .mv (.c (.int .i64 0))⟩])
  (.seq (.reg [⟨(some 5), 80, none, .mv (.t 0)⟩,
    ⟨(some 6), 96, none, .mv (.t 1)⟩,
    ⟨(some 7), 112, none, .bi false .rem (.t 5) (.t 6)⟩,
    ⟨(some 8), 128, none, .mv (.t 1)⟩,
    ⟨(some 9), 144, none, .bi false .add (.t 7) (.t 8)⟩,
    ⟨(some 10), 160, none, .mv (.t 1)⟩,
    ⟨(some 11), 176, none, .bi false .rem (.t 9) (.t 10)⟩,
    ⟨(some 4), 64, none, .mv (.t 11)⟩])
  .ret))
def c27 : C := (.seq (.reg [⟨(some 4), 64, none, .mv (.c (.int .i64 0))⟩])
  (.seq (.seq (.drw [⟨(some 6), 96, none, .mv (.t 1)⟩,
    ⟨(some 7), 112, none, .bi false .lss (.t 6) (.c (.int .i64 1))⟩,
    ⟨(some 8), 128, none, .mv (.t 7)⟩,
    ⟨(some 9), 144, (some (8, false)), .mv (.t 0)⟩,
    ⟨(some 10), 160, (some (8, false)), .nc (.t 9)⟩,
    ⟨(some 11), 176, (some (8, false)), .fa 1 (.t 10)⟩,
    ⟨(some 12), 192, (some (8, false)), .ld 1 false (.t 11)⟩,
    ⟨(some 13), 208, (some (8, false)), .mv (.t 0)⟩,
    ⟨(some 14), 224, (some (8, false)), .nc (.t 13)⟩,
    ⟨(some 15), 240, (some (8, false)), .fa 0 (.t 14)⟩,
    ⟨(some 16), 256, (some (8, false)), .ld 1 false (.t 15)⟩,
    ⟨(some 17), 272, (some (8, false)), .len (.t 16)⟩,
    ⟨(some 18), 288, (some (8, false)), .bi false .geq (.t 12) (.t 17)⟩,
    ⟨(some 19), 304, none, .pick (.t 8) (.c (.bool true)) (.t 18)⟩]
    [(3, 7, 9), (3, 8, 9), (3, 9, 9), (3, 10, 9), (3, 11, 9), (4, 7, 10), (4, 8, 10), (4, 9, 10), (4, 10, 10), (4, 11, 10), (5, 7, 11), (5, 8, 11), (5, 9, 11), (5, 10, 11), (5, 11, 11), (6, 7, 12), (6, 8, 12), (6, 9, 12), (6, 10, 12), (6, 11, 12)])
  (.cond (.t 19) (.seq (.reg [⟨(some 4), 64, none, .mv (.c (.int .i64 0))⟩])
  .ret) .skip))
  (.seq (.drw [⟨(some 20), 320, none, .mv (.t 0)⟩,
    ⟨(some 21), 336, none, .nc (.t 20)⟩,
    ⟨(some 22), 352, none, .fa 0 (.t 21)⟩,
    ⟨(some 23), 368, none, .ld 1 false (.t 22)⟩,
    ⟨(some 24), 384, none, .mv (.t 0)⟩,
    ⟨(some 25), 400, none, .nc (.t 24)⟩,
    ⟨(some 26), 416, none, .fa 1 (.t 25)⟩,
    ⟨(some 27), 432, none, .ld 1 false (.t 26)⟩,
    ⟨(some 28), 448, none, .ia 1 (.t 23) (.t 27)⟩,
    ⟨(some 29), 464, none, .ld 1 false (.t 28)⟩,
    ⟨(some 5), 80, none, .mv (.t 29)⟩]
    [(0, 4, 20), (0, 5, 20), (0, 6, 20), (0, 7, 20), (1, 4, 21), (1, 5, 21), (1, 6, 21), (1, 7, 21), (2, 4, 22), (2, 5, 22), (2, 6, 22), (2, 7, 22), (3, 4, 23), (3, 5, 23), (3, 6, 23), (3, 7, 23)])
  (.seq (.reg [⟨(some 30), 480, none, .mv (.t 0)⟩,
    ⟨(some 31), 496, none, .nc (.t 30)⟩,
    ⟨(some 32), 512, none, .fa 1 (.t 31)⟩,
    ⟨(some 33), 528, none, .ld 1 false (.t 32)⟩,
    ⟨(some 34), 544, none, .bi false .add (.t 33) (.c (.int .i64 1))⟩,
    ⟨(some 35), 560, none, .nc (.t 30)⟩,
    ⟨(some 36), 576, none, .fa 1 (.t 35)⟩,
    ⟨none, 0, none, .st 1 (.t 36) (.t 34)⟩])
  (.seq (.reg [⟨(some 37), 592, none, .mv (.t 5)⟩,
    ⟨(some 38), 608, none, .mv (.t 1)⟩,
    ⟨(some 39), 624, none, .call (.c (.fn (.func 20) [] [])) [(.t 37), (.t 38)]⟩,
    ⟨(some 4), 64, none, .mv (.t 39)⟩])
  .ret)))))
def c12 : C := (.seq (.reg [⟨(some 2), 32, none, .mv (.c (.raw (.pointer none)))⟩])
  (.seq (.reg [⟨(some 3), 48, none, .mv (.t 0)⟩,
    ⟨(some 4), 64, none, .bd [(.nil 1), (.int .i64 0)] [(0, 1, (.t 3))]⟩,
    ⟨(some 5), 80, none, .bx 2 (.t 4)⟩,
    ⟨(some 2), 32, none, .mv (.t 5)⟩])
  .ret))
theorem fits20 : fits Tryd.prog false Tryd.f20 2 12 [(4, none)] = some c20.er := by kernel_rfl
theorem fits27 : fits Tryd.prog false Tryd.f27 2 40 [(4, none)] = some c27.er := by kernel_rfl
theorem fits12 : fits Tryd.prog false Tryd.f12 1 6 [(2, none)] = some c12.er := by kernel_rfl
theorem bif_t {a b c : Bool} : (bif a then b else c) = true ↔ (a = true ∧ b = true) ∨ (a = false ∧ c = true) := by cases a <;> simp
theorem bif_f {a b c : Bool} : (bif a then b else c) = false ↔ (a = true ∧ b = false) ∨ (a = false ∧ c = false) := by cases a <;> simp
def eInt (n : Int) : List PV := [.int .i64 n]
theorem mod_mod (n k : Int) (hk : 0 < k) : (n.tmod k + k).tmod k = n % k := by
  have h1 : -k < n.tmod k := by
    have := Int.lt_tmod_of_pos n hk; omega
  have h2 : n.tmod k < k := Int.tmod_lt_of_pos n hk
  rw [Int.tmod_eq_emod_of_nonneg (by omega), Int.add_emod_right]
  have := Int.mul_tdiv_add_tmod n k
  rw [← this]
  rw [Int.add_comm (k * _), Int.add_mul_emod_self_left]
  congr 1
  rw [Int.add_comm, this]
theorem call_mod (n k : Int) (hk : 0 < k) (hk2 : k ≤ 4611686018427387904) : PureCall Tryd.prog 20 [.int .i64 n, .int .i64 k] [] ⟨.int .i64 (n % k), [], []⟩ := by
  refine pure_call mix Tryd.func20 fits20 rfl ?_
  conv => whnf
  have h1 := Int.lt_tmod_of_pos n hk
  have h2 := Int.tmod_lt_of_pos n hk
  refine ⟨?_, [], ?_⟩
  · (try conv => whnf)
    (repeat' (first | exact True.intro | exact fun _ h => h | refine inR64_of ?_ ?_ | apply And.intro | refine maxLen_ge ?_)) <;> (first | omega | decide | (dsimp only; omega) | (dsimp only [List.length_cons, List.length_nil]; omega) | (intro hg; rw [hg]; rfl) | (intro hg hh; rw [hg, hh]; rfl) | (intro hg; simp [-List.getD_eq_getElem?_getD, -Int.default_eq_zero] at hg; first | omega | (refine inR64_of ?_ ?_ <;> omega) | (constructor <;> omega)) | (simp [-List.getD_eq_getElem?_getD, -Int.default_eq_zero]; done))
  conv => whnf
  refine ⟨rfl, ?_, trivial, trivial⟩
  all_goals repeat' (first | exact True.intro | refine leF_cons rfl ?_ ?_ | refine leS_cons rfl ?_ ?_ | (show PLe _ _ _ _; conv => whnf) | (show SLe _ _ _ _; conv => whnf) | (show PLeL _ _ _ _; conv => whnf) | apply And.intro | rfl | exact Nat.le_refl _ | exact fun _ _ => rfl | exact rowEq0 _ _)
  exact mod_mod n k hk
structure Dk where
  l : List Int
  at_ : Nat
  deriving Inhabited
def eDk (τ : Nat) (d : Dk) : List PV := [.sl τ 1 d.l.length (fl eInt d.l), .int .i64 d.at_]
def nxt (d : Dk) (n : Int) : Int := if n < 1 ∨ d.l.length ≤ d.at_ then 0 else d.l.getD d.at_ default % n
def nxtD (d : Dk) (n : Int) : Dk := if n < 1 ∨ d.l.length ≤ d.at_ then d else ⟨d.l, d.at_ + 1⟩
theorem nxtD_len (d : Dk) (n : Int) : (nxtD d n).l = d.l := by unfold nxtD; split <;> rfl
theorem nxtD_at (d : Dk) (n : Int) : (nxtD d n).at_ ≤ d.at_ + 1 := by unfold nxtD; split <;> simp
theorem nxt_rng (d : Dk) (n : Int) : 0 ≤ nxt d n ∧ (nxt d n < n ∨ nxt d n = 0) := by
  unfold nxt; split
  · omega
  · rename_i h
    have h1 : 0 < n := by omega
    exact ⟨Int.emod_nonneg _ (by omega), .inl (Int.emod_lt_of_pos _ h1)⟩
theorem nxt_lt (d : Dk) {n : Int} (h : 0 < n) : 0 ≤ nxt d n ∧ nxt d n < n := by
  have := nxt_rng d n; omega
theorem call_next (τ : Nat) (d : Dk) (n : Int) (hd : d.at_ ≤ 1000000000) (hn : n ≤ 4611686018427387904) : PureCall Tryd.prog 27 [.pt 0 0 0, .int .i64 n] [.box (eDk τ d)] ⟨.int .i64 (nxt d n), [.box (eDk τ (nxtD d n))], []⟩ := by
  refine pure_call mix Tryd.func27 fits27 rfl ?_
  conv => whnf
  refine ⟨rfl, ?_⟩
  conv => whnf
  refine ⟨?_, fun hc => ?_, fun hc => ?_⟩
  · (try conv => whnf)
    (repeat' (first | exact True.intro | exact fun _ h => h | refine inR64_of ?_ ?_ | apply And.intro | refine maxLen_ge ?_)) <;> (first | omega | decide | (dsimp only; omega) | (dsimp only [List.length_cons, List.length_nil]; omega) | (intro hg; rw [hg]; rfl) | (intro hg hh; rw [hg, hh]; rfl) | (intro hg; simp [-List.getD_eq_getElem?_getD, -Int.default_eq_zero] at hg; first | omega | (refine inR64_of ?_ ?_ <;> omega) | (constructor <;> omega)) | (simp [-List.getD_eq_getElem?_getD, -Int.default_eq_zero]; done))
  · simp [-List.getD_eq_getElem?_getD, -Int.default_eq_zero] at hc
    have hc' : n < 1 ∨ d.l.length ≤ d.at_ := by omega
    rw [show nxt d n = 0 from if_pos hc', show nxtD d n = d from if_pos hc']
    conv => whnf
    refine ⟨?_, [], ?_⟩
    · (try conv => whnf)
      (repeat' (first | exact True.intro | exact fun _ h => h | refine inR64_of ?_ ?_ | apply And.intro | refine maxLen_ge ?_)) <;> (first | omega | decide | (dsimp only; omega) | (dsimp only [List.length_cons, List.length_nil]; omega) | (intro hg; rw [hg]; rfl) | (intro hg hh; rw [hg, hh]; rfl) | (intro hg; simp [-List.getD_eq_getElem?_getD, -Int.default_eq_zero] at hg; first | omega | (refine inR64_of ?_ ?_ <;> omega) | (constructor <;> omega)) | (simp [-List.getD_eq_getElem?_getD, -Int.default_eq_zero]; done))
    conv => whnf
    refine ⟨rfl, ?_, ?_, trivial⟩
    all_goals repeat' (first | exact True.intro | refine leF_cons rfl ?_ ?_ | refine leS_cons rfl ?_ ?_ | (show PLe _ _ _ _; conv => whnf) | (show SLe _ _ _ _; conv => whnf) | (show PLeL _ _ _ _; conv => whnf) | apply And.intro | rfl | exact Nat.le_refl _ | exact fun _ _ => rfl | exact rowEq0 _ _)
  · simp [-List.getD_eq_getElem?_getD, -Int.default_eq_zero] at hc
    have hc' : ¬ (n < 1 ∨ d.l.length ≤ d.at_) := by omega
    rw [show nxt d n = d.l.getD d.at_ default % n from if_neg hc', show nxtD d n = ⟨d.l, d.at_ + 1⟩ from if_neg hc']
    conv => whnf
    refine ⟨rfl, ?_⟩
    conv => whnf
    refine ⟨_, fun _ => call_mod (d.l.getD ((d.at_ : Int)).toNat default) n (by omega) hn, ?_⟩
    conv => whnf
    refine ⟨?_, [], ?_⟩
    · (try conv => whnf)
      (repeat' (first | exact True.intro | exact fun _ h => h | refine inR64_of ?_ ?_ | apply And.intro | refine maxLen_ge ?_)) <;> (first | omega | decide | (dsimp only; omega) | (dsimp only [List.length_cons, List.length_nil]; omega) | (intro hg; rw [hg]; rfl) | (intro hg hh; rw [hg, hh]; rfl) | (intro hg; simp [-List.getD_eq_getElem?_getD, -Int.default_eq_zero] at hg; first | omega | (refine inR64_of ?_ ?_ <;> omega) | (constructor <;> omega)) | (simp [-List.getD_eq_getElem?_getD, -Int.default_eq_zero]; done))
    conv => whnf
    refine ⟨rfl, ?_, ?_, trivial⟩
    all_goals repeat' (first | exact True.intro | refine leF_cons rfl ?_ ?_ | refine leS_cons rfl ?_ ?_ | (show PLe _ _ _ _; conv => whnf) | (show SLe _ _ _ _; conv => whnf) | (show PLeL _ _ _ _; conv => whnf) | apply And.intro | rfl | exact Nat.le_refl _ | exact fun _ _ => rfl | exact rowEq0 _ _)
theorem call_new (τ : Nat) (l : List Int) : PureCall Tryd.prog 12 [.sl τ 1 l.length (fl eInt l)] [] ⟨.pt 1000000000 0 0, [], [.box (eDk τ ⟨l, 0⟩)]⟩ := by
  refine pure_call mix Tryd.func12 fits12 rfl ?_
  conv => whnf
  refine ⟨trivial, [80], ?_⟩
  conv => whnf
  refine ⟨rfl, ?_, trivial, ?_⟩
  all_goals repeat' (first | exact True.intro | refine leF_cons rfl ?_ ?_ | refine leS_cons rfl ?_ ?_ | (show PLe _ _ _ _; conv => whnf) | (show SLe _ _ _ _; conv => whnf) | (show PLeL _ _ _ _; conv => whnf) | apply And.intro | rfl | exact Nat.le_refl _ | exact fun _ _ => rfl | exact rowEq0 _ _)
end Pv
end Go.Proofs.YtcfcmafmdpbjoaaDoor
/- LAW 24, THE WALKS: valid tables. -/
set_option linter.unusedSimpArgs false
set_option linter.unusedVariables false
namespace Go.Proofs.YtcfcmafmdpbjoaaDoor
namespace Pv
def c9 : C := (.seq (.reg [⟨(some 2), 32, none, .mv (.c (.bool false))⟩])
  (.seq (.reg [⟨(some 3), 48, none, .mv (.t 0)⟩,
    ⟨(some 4), 64, none, .len (.t 3)⟩,
    ⟨(some 5), 80, none, .bi false .leq (.t 4) (.c (.int .i64 500))⟩,
    ⟨(some 2), 32, none, .mv (.t 5)⟩])
  .ret))
theorem fits9 : fits Tryd.prog false Tryd.f9 1 6 [(2, none)] = some c9.er := by kernel_rfl
def c42L1 : C := (.seq (.reg [⟨(some 10), 160, none, .bi false .lss (.t 9) (.t 8)⟩])
  (.seq (.cond (.t 10) .skip (.exit 0))
  (.seq (.block 1 (.seq (.reg [⟨(some 11), 176, none, .mv (.t 9)⟩,
    ⟨(some 12), 192, none, .ia 1 (.t 7) (.t 9)⟩,
    ⟨(some 13), 208, none, .ld 1 false (.t 12)⟩,
    ⟨(some 5), 80, none, .mv (.t 11)⟩,
    ⟨(some 6), 96, none, .mv (.t 13)⟩])
  (.seq (.seq (.reg [⟨(some 14), 224, none, .mv (.t 6)⟩,
    ⟨(some 15), 240, none, .bi false .lss (.t 14) (.c (.int .i64 0))⟩,
    ⟨(some 16), 256, none, .mv (.t 15)⟩,
    ⟨(some 17), 272, (some (16, false)), .mv (.t 6)⟩,
    ⟨(some 18), 288, (some (16, false)), .mv (.t 1)⟩,
    ⟨(some 19), 304, (some (16, false)), .bi false .gtr (.t 17) (.t 18)⟩,
    ⟨(some 20), 320, none, .pick (.t 16) (.c (.bool true)) (.t 19)⟩])
  (.cond (.t 20) (.seq (.reg [⟨(some 4), 64, none, .mv (.c (.int .i64 1))⟩])
  .ret) .skip))
  (.seq (.reg [⟨(some 21), 336, none, .mv (.t 5)⟩,
    ⟨(some 22), 352, none, .bi false .gtr (.t 21) (.c (.int .i64 0))⟩,
    ⟨(some 23), 368, none, .mv (.t 22)⟩,
    ⟨(some 24), 384, (some (23, true)), .mv (.t 6)⟩,
    ⟨(some 25), 400, (some (23, true)), .mv (.t 0)⟩,
    ⟨(some 26), 416, (some (23, true)), .mv (.t 5)⟩,
    ⟨(some 27), 432, (some (23, true)), .bi false .sub (.t 26) (.c (.int .i64 1))⟩,
    ⟨(some 28), 448, (some (23, true)), .ia 1 (.t 25) (.t 27)⟩,
    ⟨(some 29), 464, (some (23, true)), .ld 1 false (.t 28)⟩,
    ⟨(some 30), 480, (some (23, true)), .bi false .leq (.t 24) (.t 29)⟩,
    ⟨(some 31), 496, none, .pick (.t 23) (.t 30) (.c (.bool false))⟩])
  (.cond (.t 31) (.seq (.reg [⟨(some 4), 64, none, .mv (.c (.int .i64 4))⟩])
  .ret) .skip)))))
  (.reg [⟨(some 32), 512, none, .bi false .add (.t 9) (.c (.int .i64 1))⟩,
    ⟨(some 9), 144, none, .mv (.t 32)⟩]))))
def c42 : C := (.seq (.reg [⟨(some 4), 64, none, .mv (.c (.int .i64 0))⟩])
  (.seq (.seq (.reg [⟨(some 7), 112, none, .mv (.t 0)⟩,
    ⟨(some 8), 128, none, .len (.t 7)⟩,
    ⟨(some 9), 144, none, .mv (.c (.int .i64 0))⟩])
  (.block 0 (.loop c42L1)))
  (.seq (.reg [⟨(some 4), 64, none, .mv (.c (.int .i64 0))⟩])
  .ret)))
theorem fits42 : fits Tryd.prog false Tryd.f42 2 33 [(4, none)] = some c42.er := by kernel_rfl
def c43L1 : C := (.seq (.reg [⟨(some 16), 256, none, .bi false .lss (.t 15) (.t 14)⟩])
  (.seq (.cond (.t 16) .skip (.exit 0))
  (.seq (.block 1 (.seq (.reg [⟨(some 17), 272, none, .mv (.t 15)⟩,
    ⟨(some 18), 288, none, .ia 1 (.t 13) (.t 15)⟩,
    ⟨(some 19), 304, none, .ld 1 false (.t 18)⟩,
    ⟨(some 7), 112, none, .mv (.t 17)⟩,
    ⟨(some 8), 128, none, .mv (.t 19)⟩])
  (.seq (.seq (.reg [⟨(some 20), 320, none, .mv (.t 8)⟩,
    ⟨(some 21), 336, none, .bi false .lss (.t 20) (.c (.int .i64 0))⟩,
    ⟨(some 22), 352, none, .mv (.t 21)⟩,
    ⟨(some 23), 368, (some (22, false)), .mv (.t 8)⟩,
    ⟨(some 24), 384, (some (22, false)), .bi false .gtr (.t 23) (.c (.int .i64 1073741824))⟩,
    ⟨(some 25), 400, none, .pick (.t 22) (.c (.bool true)) (.t 24)⟩])
  (.cond (.t 25) (.seq (.reg [⟨(some 6), 96, none, .mv (.c (.int .i64 1))⟩])
  .ret) .skip))
  (.seq (.reg [⟨(some 26), 416, none, .mv (.t 7)⟩,
    ⟨(some 27), 432, none, .bi false .gtr (.t 26) (.c (.int .i64 0))⟩,
    ⟨(some 28), 448, none, .mv (.t 27)⟩,
    ⟨(some 29), 464, (some (28, true)), .mv (.t 8)⟩,
    ⟨(some 30), 480, (some (28, true)), .mv (.t 0)⟩,
    ⟨(some 31), 496, (some (28, true)), .mv (.t 7)⟩,
    ⟨(some 32), 512, (some (28, true)), .bi false .sub (.t 31) (.c (.int .i64 1))⟩,
    ⟨(some 33), 528, (some (28, true)), .ia 1 (.t 30) (.t 32)⟩,
    ⟨(some 34), 544, (some (28, true)), .ld 1 false (.t 33)⟩,
    ⟨(some 35), 560, (some (28, true)), .bi false .lss (.t 29) (.t 34)⟩,
    ⟨(some 36), 576, none, .pick (.t 28) (.t 35) (.c (.bool false))⟩,
    ⟨(some 37), 592, none, .mv (.t 36)⟩,
    ⟨(some 38), 608, (some (37, false)), .mv (.t 1)⟩,
    ⟨(some 39), 624, (some (37, false)), .isn true (.t 38)⟩,
    ⟨(some 40), 640, (some (37, false)), .mv (.t 39)⟩,
    ⟨(some 41), 656, (some (40, true)), .mv (.t 8)⟩,
    ⟨(some 42), 672, (some (40, true)), .mv (.t 1)⟩,
    ⟨(some 43), 688, (some (40, true)), .mv (.t 7)⟩,
    ⟨(some 44), 704, (some (40, true)), .ia 1 (.t 42) (.t 43)⟩,
    ⟨(some 45), 720, (some (40, true)), .ld 1 false (.t 44)⟩,
    ⟨(some 46), 736, (some (40, true)), .bi false .lss (.t 41) (.t 45)⟩,
    ⟨(some 47), 752, (some (37, false)), .pick (.t 40) (.t 46) (.c (.bool false))⟩,
    ⟨(some 48), 768, none, .pick (.t 37) (.c (.bool true)) (.t 47)⟩])
  (.cond (.t 48) (.seq (.reg [⟨(some 6), 96, none, .mv (.c (.int .i64 4))⟩])
  .ret) .skip)))))
  (.reg [⟨(some 49), 784, none, .bi false .add (.t 15) (.c (.int .i64 1))⟩,
    ⟨(some 15), 240, none, .mv (.t 49)⟩]))))
def c43 : C := (.seq (.reg [⟨(some 6), 96, none, .mv (.c (.int .i64 0))⟩])
  (.seq (.seq (.reg [⟨(some 9), 144, none, .mv (.t 0)⟩,
    ⟨(some 10), 160, none, .len (.t 9)⟩,
    ⟨(some 11), 176, none, .mv (.t 2)⟩,
    ⟨(some 12), 192, none, .bi false .neq (.t 10) (.t 11)⟩])
  (.cond (.t 12) (.seq (.reg [⟨(some 6), 96, none, .mv (.c (.int .i64 3))⟩])
  .ret) .skip))
  (.seq (.seq (.reg [⟨(some 13), 208, none, .mv (.t 0)⟩,
    ⟨(some 14), 224, none, .len (.t 13)⟩,
    ⟨(some 15), 240, none, .mv (.c (.int .i64 0))⟩])
  (.block 0 (.loop c43L1)))
  (.seq (.reg [⟨(some 6), 96, none, .mv (.c (.int .i64 0))⟩])
  .ret))))
theorem fits43 : fits Tryd.prog false Tryd.f43 3 50 [(6, none)] = some c43.er := by kernel_rfl
def c22L1 : C := (.seq (.reg [⟨(some 20), 320, none, .bi false .lss (.t 19) (.t 18)⟩])
  (.seq (.cond (.t 20) .skip (.exit 0))
  (.seq (.block 1 (.seq (.reg [⟨(some 21), 336, none, .ia 1 (.t 17) (.t 19)⟩,
    ⟨(some 22), 352, none, .ld 1 false (.t 21)⟩,
    ⟨(some 4), 64, none, .mv (.t 22)⟩])
  (.seq (.reg [⟨(some 23), 368, none, .mv (.t 4)⟩,
    ⟨(some 24), 384, none, .bi false .lss (.t 23) (.c (.int .i64 1))⟩,
    ⟨(some 25), 400, none, .mv (.t 24)⟩,
    ⟨(some 26), 416, (some (25, false)), .mv (.t 4)⟩,
    ⟨(some 27), 432, (some (25, false)), .bi false .gtr (.t 26) (.c (.int .i64 20))⟩,
    ⟨(some 28), 448, none, .pick (.t 25) (.c (.bool true)) (.t 27)⟩])
  (.cond (.t 28) (.seq (.reg [⟨(some 2), 32, none, .mv (.c (.int .i64 42))⟩])
  .ret) .skip))))
  (.reg [⟨(some 29), 464, none, .bi false .add (.t 19) (.c (.int .i64 1))⟩,
    ⟨(some 19), 304, none, .mv (.t 29)⟩]))))
def c22L2 : C := (.seq (.reg [⟨(some 53), 848, none, .bi false .lss (.t 52) (.t 51)⟩])
  (.seq (.cond (.t 53) .skip (.exit 2))
  (.seq (.block 3 (.seq (.reg [⟨(some 54), 864, none, .ia 1 (.t 50) (.t 52)⟩,
    ⟨(some 55), 880, none, .ld 1 false (.t 54)⟩,
    ⟨(some 9), 144, none, .mv (.t 55)⟩])
  (.seq (.seq (.reg [⟨(some 56), 896, none, .mv (.t 9)⟩,
    ⟨(some 57), 912, none, .mv (.t 7)⟩,
    ⟨(some 58), 928, none, .fa 1 (.t 1)⟩,
    ⟨(some 59), 944, none, .ld 1 false (.t 58)⟩,
    ⟨(some 60), 960, none, .len (.t 59)⟩,
    ⟨(some 61), 976, none, .call (.c (.fn (.func 43) [] [])) [(.t 56), (.t 57), (.t 60)]⟩,
    ⟨(some 10), 160, none, .mv (.t 61)⟩])
  (.seq (.reg [⟨(some 62), 992, none, .mv (.t 10)⟩,
    ⟨(some 63), 1008, none, .bi false .neq (.t 62) (.c (.int .i64 0))⟩])
  (.cond (.t 63) (.seq (.reg [⟨(some 64), 1024, none, .mv (.t 10)⟩,
    ⟨(some 2), 32, none, .mv (.t 64)⟩])
  .ret) .skip)))
  (.reg [⟨(some 65), 1040, none, .mv (.t 9)⟩,
    ⟨(some 7), 112, none, .mv (.t 65)⟩]))))
  (.reg [⟨(some 66), 1056, none, .bi false .add (.t 52) (.c (.int .i64 1))⟩,
    ⟨(some 52), 832, none, .mv (.t 66)⟩]))))
def c22 : C := (.seq (.reg [⟨(some 1), 16, none, .bx 3 (.t 0)⟩,
    ⟨(some 2), 32, none, .mv (.c (.int .i64 0))⟩])
  (.seq (.seq (.reg [⟨(some 11), 176, none, .fa 0 (.t 1)⟩,
    ⟨(some 12), 192, none, .ld 1 false (.t 11)⟩,
    ⟨(some 13), 208, none, .len (.t 12)⟩,
    ⟨(some 14), 224, none, .fa 1 (.t 1)⟩,
    ⟨(some 15), 240, none, .ld 1 false (.t 14)⟩,
    ⟨(some 16), 256, none, .len (.t 15)⟩,
    ⟨(some 17), 272, none, .bs 3 1 [(.t 13), (.t 16)]⟩,
    ⟨(some 18), 288, none, .len (.t 17)⟩,
    ⟨(some 19), 304, none, .mv (.c (.int .i64 0))⟩])
  (.block 0 (.loop c22L1)))
  (.seq (.seq (.reg [⟨(some 30), 480, none, .fa 0 (.t 1)⟩,
    ⟨(some 31), 496, none, .ld 1 false (.t 30)⟩,
    ⟨(some 32), 512, none, .call (.c (.fn (.func 42) [] [])) [(.t 31), (.c (.int .i64 16777216))]⟩,
    ⟨(some 5), 80, none, .mv (.t 32)⟩])
  (.seq (.reg [⟨(some 33), 528, none, .mv (.t 5)⟩,
    ⟨(some 34), 544, none, .bi false .neq (.t 33) (.c (.int .i64 0))⟩])
  (.cond (.t 34) (.seq (.reg [⟨(some 35), 560, none, .mv (.t 5)⟩,
    ⟨(some 2), 32, none, .mv (.t 35)⟩])
  .ret) .skip)))
  (.seq (.seq (.reg [⟨(some 36), 576, none, .fa 1 (.t 1)⟩,
    ⟨(some 37), 592, none, .ld 1 false (.t 36)⟩,
    ⟨(some 38), 608, none, .call (.c (.fn (.func 42) [] [])) [(.t 37), (.c (.int .i64 1073741824))]⟩,
    ⟨(some 6), 96, none, .mv (.t 38)⟩])
  (.seq (.reg [⟨(some 39), 624, none, .mv (.t 6)⟩,
    ⟨(some 40), 640, none, .bi false .neq (.t 39) (.c (.int .i64 0))⟩])
  (.cond (.t 40) (.seq (.reg [⟨(some 41), 656, none, .mv (.t 6)⟩,
    ⟨(some 2), 32, none, .mv (.t 41)⟩])
  .ret) .skip)))
  (.seq (.seq (.reg [⟨(some 42), 672, none, .fa 2 (.t 1)⟩,
    ⟨(some 43), 688, none, .ld 1 false (.t 42)⟩,
    ⟨(some 44), 704, none, .len (.t 43)⟩,
    ⟨(some 45), 720, none, .fa 0 (.t 1)⟩,
    ⟨(some 46), 736, none, .ld 1 false (.t 45)⟩,
    ⟨(some 47), 752, none, .len (.t 46)⟩,
    ⟨(some 48), 768, none, .bi false .neq (.t 44) (.t 47)⟩])
  (.cond (.t 48) (.seq (.reg [⟨(some 2), 32, none, .mv (.c (.int .i64 3))⟩])
  .ret) .skip))
  (.seq (.reg [⟨(some 7), 112, none, .mv (.c (.nil 1))⟩])
  (.seq (.seq (.reg [⟨(some 49), 784, none, .fa 2 (.t 1)⟩,
    ⟨(some 50), 800, none, .ld 1 false (.t 49)⟩,
    ⟨(some 51), 816, none, .len (.t 50)⟩,
    ⟨(some 52), 832, none, .mv (.c (.int .i64 0))⟩])
  (.block 2 (.loop c22L2)))
  (.seq (.reg [⟨(some 2), 32, none, .mv (.c (.int .i64 0))⟩])
  .ret))))))))
theorem fits22 : fits Tryd.prog false Tryd.f22 1 67 [(2, none)] = some c22.er := by kernel_rfl
theorem call9 (τ : Nat) (l : List Int) : PureCall Tryd.prog 9 [.sl τ 1 l.length (fl eInt l)] [] ⟨.bool (decide (l.length ≤ 500)), [], []⟩ := by
  refine pure_call mix Tryd.func9 fits9 rfl ?_
  conv => whnf
  refine ⟨?_, [], ?_⟩
  · exact g0
  conv => whnf
  refine ⟨rfl, ?_, trivial, trivial⟩
  all_goals repeat' (first | exact True.intro | refine leF_cons rfl ?_ ?_ | refine leS_cons rfl ?_ ?_ | (show PLe _ _ _ _; conv => whnf) | (show SLe _ _ _ _; conv => whnf) | (show PLeL _ _ _ _; conv => whnf) | apply And.intro | rfl | exact Nat.le_refl _ | exact fun _ _ => rfl | exact rowEq0 _ _)
  simp
  omega
def riseE (l : List Int) (most : Int) (i : Nat) : Int :=
  if l.getD i default < 0 ∨ most < l.getD i default then 1 else if 0 < i ∧ l.getD i default ≤ l.getD (i - 1) default then 4 else 0
set_option maxRecDepth 100000 in
set_option maxHeartbeats 4000000 in
theorem call42 (τ : Nat) (l : List Int) (most : Int) (hl : l.length ≤ 4611686018427387904) : PureCall Tryd.prog 42 [.sl τ 1 l.length (fl eInt l), .int .i64 most] [] ⟨.int .i64 (scan (riseE l most) 0 l.length), [], []⟩ := by
  refine pure_call mix Tryd.func42 fits42 rfl ?_
  conv => whnf
  refine ⟨trivial, ?_⟩
  refine LSem.loop (n := 33) mix (α := Nat) (fun i => i ≤ l.length ∧ scan (riseE l most) i (l.length - i) = scan (riseE l most) 0 l.length)
    (fun i => [(0, .sl τ 1 l.length (fl eInt l)), (1, .int .i64 most), (7, .sl τ 1 l.length (fl eInt l)), (8, .int .i64 l.length), (9, .int .i64 i)])
    (fun i => []) (fun i => l.length - i) 0 ?_ ?_ ?_
  · exact ⟨Nat.zero_le _, rfl⟩
  · refine ⟨rfl, rfl, ?_, ?_⟩
    all_goals repeat' (first | exact True.intro | refine leF_cons rfl ?_ ?_ | refine leS_cons rfl ?_ ?_ | (show PLe _ _ _ _; conv => whnf) | (show SLe _ _ _ _; conv => whnf) | (show PLeL _ _ _ _; conv => whnf) | apply And.intro | rfl | exact Nat.le_refl _ | exact fun _ _ => rfl | exact rowEq0 _ _)
  · intro i hi
    obtain ⟨hi, hs⟩ := hi
    have hj : ((i : Int)).toNat = i := by omega
    have hj1 : ((i : Int) - 1).toNat = i - 1 := by omega
    conv => whnf
    refine ⟨trivial, fun hc => ?_, fun hc => ?_⟩
    · replace hc := of_decide_eq_true hc
      have hlt : i < l.length := by omega
      conv => whnf
      refine ⟨?_, fun h1 => ?_, fun h1 => ?_⟩
      · exact g0
      · simp only [bp] at h1
        rw [hj] at h1
        have hE : riseE l most i = 1 := by unfold riseE; rw [if_pos (by omega)]
        have hh : scan (riseE l most) 0 l.length = 1 := by rw [← hs, ← hE]; exact scan_hit (show 0 < l.length - i by omega) (by rw [hE]; decide)
        rw [hh]
        conv => whnf
        refine ⟨?_, [], ?_⟩
        · exact g0
        conv => whnf
        refine ⟨rfl, ?_, trivial, trivial⟩
        all_goals repeat' (first | exact True.intro | refine leF_cons rfl ?_ ?_ | refine leS_cons rfl ?_ ?_ | (show PLe _ _ _ _; conv => whnf) | (show SLe _ _ _ _; conv => whnf) | (show PLeL _ _ _ _; conv => whnf) | apply And.intro | rfl | exact Nat.le_refl _ | exact fun _ _ => rfl | exact rowEq0 _ _)
      · simp only [bp] at h1
        rw [hj] at h1
        conv => whnf
        refine ⟨?_, fun h2 => ?_, fun h2 => ?_⟩
        · exact g0
        · simp only [bp] at h2
          rw [hj, hj1] at h2
          have hE : riseE l most i = 4 := by unfold riseE; rw [if_neg (by omega), if_pos (by omega)]
          have hh : scan (riseE l most) 0 l.length = 4 := by rw [← hs, ← hE]; exact scan_hit (show 0 < l.length - i by omega) (by rw [hE]; decide)
          rw [hh]
          conv => whnf
          refine ⟨?_, [], ?_⟩
          · exact g0
          conv => whnf
          refine ⟨rfl, ?_, trivial, trivial⟩
          all_goals repeat' (first | exact True.intro | refine leF_cons rfl ?_ ?_ | refine leS_cons rfl ?_ ?_ | (show PLe _ _ _ _; conv => whnf) | (show SLe _ _ _ _; conv => whnf) | (show PLeL _ _ _ _; conv => whnf) | apply And.intro | rfl | exact Nat.le_refl _ | exact fun _ _ => rfl | exact rowEq0 _ _)
        · simp only [bp] at h2
          rw [hj, hj1] at h2
          have hE : riseE l most i = 0 := by unfold riseE; rw [if_neg (by omega), if_neg (by omega)]
          have hh : scan (riseE l most) (i + 1) (l.length - (i + 1)) = scan (riseE l most) 0 l.length := by rw [← hs, scan_step (show 0 < l.length - i by omega) hE]; congr 1
          conv => whnf
          refine ⟨?_, i + 1, ⟨by omega, hh⟩, ?_, rfl, rfl, ?_, ?_⟩
          · exact g0
          · omega
          all_goals repeat' (first | exact True.intro | refine leF_cons rfl ?_ ?_ | refine leS_cons rfl ?_ ?_ | (show PLe _ _ _ _; conv => whnf) | (show SLe _ _ _ _; conv => whnf) | (show PLeL _ _ _ _; conv => whnf) | apply And.intro | rfl | exact Nat.le_refl _ | exact fun _ _ => rfl | exact rowEq0 _ _)
          all_goals omega
    · replace hc := of_decide_eq_false hc
      have : i = l.length := by omega
      subst this
      rw [← hs, Nat.sub_self]
      conv => whnf
      refine ⟨?_, [], ?_⟩
      · exact g0
      conv => whnf
      refine ⟨rfl, ?_, trivial, trivial⟩
      all_goals repeat' (first | exact True.intro | refine leF_cons rfl ?_ ?_ | refine leS_cons rfl ?_ ?_ | (show PLe _ _ _ _; conv => whnf) | (show SLe _ _ _ _; conv => whnf) | (show PLeL _ _ _ _; conv => whnf) | apply And.intro | rfl | exact Nat.le_refl _ | exact fun _ _ => rfl | exact rowEq0 _ _)
def under (l : List Int) (ab : Option (List Int)) (i : Nat) : Bool := match ab with
  | none => false
  | some a => decide (l.getD i default < a.getD i default)
def rowE (l : List Int) (ab : Option (List Int)) (i : Nat) : Int :=
  if l.getD i default < 0 ∨ 1073741824 < l.getD i default then 1 else if (0 < i ∧ l.getD i default < l.getD (i - 1) default) ∨ under l ab i = true then 4 else 0
def rowF (l : List Int) (ab : Option (List Int)) (n : Int) : Int := if (l.length : Int) ≠ n then 3 else scan (rowE l ab) 0 l.length
set_option maxRecDepth 100000 in
set_option maxHeartbeats 8000000 in
theorem call43n (τ : Nat) (l : List Int) (n : Int) (hl : l.length ≤ 4611686018427387904) : PureCall Tryd.prog 43 [.sl τ 1 l.length (fl eInt l), .nil 1, .int .i64 n] [] ⟨.int .i64 (rowF l none n), [], []⟩ := by
  refine pure_call mix Tryd.func43 fits43 rfl ?_
  conv => whnf
  refine ⟨trivial, fun hc => ?_, fun hc => ?_⟩
  · simp only [bp] at hc
    rw [show rowF l none n = 3 by unfold rowF; rw [if_pos (by omega)]]
    conv => whnf
    refine ⟨?_, [], ?_⟩
    · exact g0
    conv => whnf
    refine ⟨rfl, ?_, trivial, trivial⟩
    all_goals repeat' (first | exact True.intro | refine leF_cons rfl ?_ ?_ | refine leS_cons rfl ?_ ?_ | (show PLe _ _ _ _; conv => whnf) | (show SLe _ _ _ _; conv => whnf) | (show PLeL _ _ _ _; conv => whnf) | apply And.intro | rfl | exact Nat.le_refl _ | exact fun _ _ => rfl | exact rowEq0 _ _)
  simp only [bp] at hc
  have hln : (l.length : Int) = n := by omega
  rw [show rowF l none n = scan (rowE l none) 0 l.length by unfold rowF; rw [if_neg (by omega)]]
  conv => whnf
  refine ⟨trivial, ?_⟩
  refine LSem.loop (n := 50) mix (α := Nat) (fun i => i ≤ l.length ∧ scan (rowE l none) i (l.length - i) = scan (rowE l none) 0 l.length)
    (fun i => [(0, .sl τ 1 l.length (fl eInt l)), (1, .nil 1), (13, .sl τ 1 l.length (fl eInt l)), (14, .int .i64 l.length), (15, .int .i64 i)])
    (fun i => []) (fun i => l.length - i) 0 ?_ ?_ ?_
  · exact ⟨Nat.zero_le _, rfl⟩
  · refine ⟨rfl, rfl, ?_, ?_⟩
    all_goals repeat' (first | exact True.intro | refine leF_cons rfl ?_ ?_ | refine leS_cons rfl ?_ ?_ | (show PLe _ _ _ _; conv => whnf) | (show SLe _ _ _ _; conv => whnf) | (show PLeL _ _ _ _; conv => whnf) | apply And.intro | rfl | exact Nat.le_refl _ | exact fun _ _ => rfl | exact rowEq0 _ _)
  · intro i hi
    obtain ⟨hi, hs⟩ := hi
    have hj : ((i : Int)).toNat = i := by omega
    have hj1 : ((i : Int) - 1).toNat = i - 1 := by omega
    conv => whnf
    refine ⟨trivial, fun hc => ?_, fun hc => ?_⟩
    · replace hc := of_decide_eq_true hc
      have hlt : i < l.length := by omega
      conv => whnf
      refine ⟨?_, fun h1 => ?_, fun h1 => ?_⟩
      · exact g0
      · simp only [bp] at h1
        rw [hj] at h1
        have hE : rowE l none i = 1 := by unfold rowE; rw [if_pos (by omega)]
        have hh : scan (rowE l none) 0 l.length = 1 := by rw [← hs, ← hE]; exact scan_hit (show 0 < l.length - i by omega) (by rw [hE]; decide)
        rw [hh]
        conv => whnf
        refine ⟨?_, [], ?_⟩
        · exact g0
        conv => whnf
        refine ⟨rfl, ?_, trivial, trivial⟩
        all_goals repeat' (first | exact True.intro | refine leF_cons rfl ?_ ?_ | refine leS_cons rfl ?_ ?_ | (show PLe _ _ _ _; conv => whnf) | (show SLe _ _ _ _; conv => whnf) | (show PLeL _ _ _ _; conv => whnf) | apply And.intro | rfl | exact Nat.le_refl _ | exact fun _ _ => rfl | exact rowEq0 _ _)
      · simp only [bp] at h1
        rw [hj] at h1
        conv => whnf
        refine ⟨?_, fun h2 => ?_, fun h2 => ?_⟩
        · exact g0
        · simp only [bp] at h2
          rw [hj, hj1] at h2
          have hE : rowE l none i = 4 := by
            unfold rowE
            rw [if_neg (by omega), if_pos]
            exact .inl ⟨by omega, h2.2⟩
          have hh : scan (rowE l none) 0 l.length = 4 := by rw [← hs, ← hE]; exact scan_hit (show 0 < l.length - i by omega) (by rw [hE]; decide)
          rw [hh]
          conv => whnf
          refine ⟨?_, [], ?_⟩
          · exact g0
          conv => whnf
          refine ⟨rfl, ?_, trivial, trivial⟩
          all_goals repeat' (first | exact True.intro | refine leF_cons rfl ?_ ?_ | refine leS_cons rfl ?_ ?_ | (show PLe _ _ _ _; conv => whnf) | (show SLe _ _ _ _; conv => whnf) | (show PLeL _ _ _ _; conv => whnf) | apply And.intro | rfl | exact Nat.le_refl _ | exact fun _ _ => rfl | exact rowEq0 _ _)
        · simp only [bp] at h2
          rw [hj, hj1] at h2
          have hE : rowE l none i = 0 := by
            unfold rowE
            rw [if_neg (by omega), if_neg]
            rintro (h3 | h3)
            · obtain ⟨h4, h5⟩ := h3
              rcases h2 with h6 | h6
              · exact h6.2 h5
              · exact h6 (by omega)
            · cases h3
          have hh : scan (rowE l none) (i + 1) (l.length - (i + 1)) = scan (rowE l none) 0 l.length := by rw [← hs, scan_step (show 0 < l.length - i by omega) hE]; congr 1
          conv => whnf
          refine ⟨?_, i + 1, ⟨by omega, hh⟩, ?_, rfl, rfl, ?_, ?_⟩
          · exact g0
          · omega
          all_goals repeat' (first | exact True.intro | refine leF_cons rfl ?_ ?_ | refine leS_cons rfl ?_ ?_ | (show PLe _ _ _ _; conv => whnf) | (show SLe _ _ _ _; conv => whnf) | (show PLeL _ _ _ _; conv => whnf) | apply And.intro | rfl | exact Nat.le_refl _ | exact fun _ _ => rfl | exact rowEq0 _ _)
          all_goals omega
    · replace hc := of_decide_eq_false hc
      have : i = l.length := by omega
      subst this
      rw [← hs, Nat.sub_self]
      conv => whnf
      refine ⟨?_, [], ?_⟩
      · exact g0
      conv => whnf
      refine ⟨rfl, ?_, trivial, trivial⟩
      all_goals repeat' (first | exact True.intro | refine leF_cons rfl ?_ ?_ | refine leS_cons rfl ?_ ?_ | (show PLe _ _ _ _; conv => whnf) | (show SLe _ _ _ _; conv => whnf) | (show PLeL _ _ _ _; conv => whnf) | apply And.intro | rfl | exact Nat.le_refl _ | exact fun _ _ => rfl | exact rowEq0 _ _)
set_option maxRecDepth 100000 in
set_option maxHeartbeats 8000000 in
theorem call43s (τ τ' : Nat) (l : List Int) (ab : List Int) (n : Int) (hl : l.length ≤ 4611686018427387904) (hab : (ab.length : Int) = n) : PureCall Tryd.prog 43 [.sl τ 1 l.length (fl eInt l), .sl τ' 1 ab.length (fl eInt ab), .int .i64 n] [] ⟨.int .i64 (rowF l (some ab) n), [], []⟩ := by
  refine pure_call mix Tryd.func43 fits43 rfl ?_
  conv => whnf
  refine ⟨trivial, fun hc => ?_, fun hc => ?_⟩
  · simp only [bp] at hc
    rw [show rowF l (some ab) n = 3 by unfold rowF; rw [if_pos (by omega)]]
    conv => whnf
    refine ⟨?_, [], ?_⟩
    · exact g0
    conv => whnf
    refine ⟨rfl, ?_, trivial, trivial⟩
    all_goals repeat' (first | exact True.intro | refine leF_cons rfl ?_ ?_ | refine leS_cons rfl ?_ ?_ | (show PLe _ _ _ _; conv => whnf) | (show SLe _ _ _ _; conv => whnf) | (show PLeL _ _ _ _; conv => whnf) | apply And.intro | rfl | exact Nat.le_refl _ | exact fun _ _ => rfl | exact rowEq0 _ _)
  simp only [bp] at hc
  have hln : (l.length : Int) = n := by omega
  rw [show rowF l (some ab) n = scan (rowE l (some ab)) 0 l.length by unfold rowF; rw [if_neg (by omega)]]
  conv => whnf
  refine ⟨trivial, ?_⟩
  refine LSem.loop (n := 50) mix (α := Nat) (fun i => i ≤ l.length ∧ scan (rowE l (some ab)) i (l.length - i) = scan (rowE l (some ab)) 0 l.length)
    (fun i => [(0, .sl τ 1 l.length (fl eInt l)), (1, .sl τ' 1 ab.length (fl eInt ab)), (13, .sl τ 1 l.length (fl eInt l)), (14, .int .i64 l.length), (15, .int .i64 i)])
    (fun i => []) (fun i => l.length - i) 0 ?_ ?_ ?_
  · exact ⟨Nat.zero_le _, rfl⟩
  · refine ⟨rfl, rfl, ?_, ?_⟩
    all_goals repeat' (first | exact True.intro | refine leF_cons rfl ?_ ?_ | refine leS_cons rfl ?_ ?_ | (show PLe _ _ _ _; conv => whnf) | (show SLe _ _ _ _; conv => whnf) | (show PLeL _ _ _ _; conv => whnf) | apply And.intro | rfl | exact Nat.le_refl _ | exact fun _ _ => rfl | exact rowEq0 _ _)
  · intro i hi
    obtain ⟨hi, hs⟩ := hi
    have hj : ((i : Int)).toNat = i := by omega
    have hj1 : ((i : Int) - 1).toNat = i - 1 := by omega
    conv => whnf
    refine ⟨trivial, fun hc => ?_, fun hc => ?_⟩
    · replace hc := of_decide_eq_true hc
      have hlt : i < l.length := by omega
      conv => whnf
      refine ⟨?_, fun h1 => ?_, fun h1 => ?_⟩
      · exact g0
      · simp only [bp] at h1
        rw [hj] at h1
        have hE : rowE l (some ab) i = 1 := by unfold rowE; rw [if_pos (by omega)]
        have hh : scan (rowE l (some ab)) 0 l.length = 1 := by rw [← hs, ← hE]; exact scan_hit (show 0 < l.length - i by omega) (by rw [hE]; decide)
        rw [hh]
        conv => whnf
        refine ⟨?_, [], ?_⟩
        · exact g0
        conv => whnf
        refine ⟨rfl, ?_, trivial, trivial⟩
        all_goals repeat' (first | exact True.intro | refine leF_cons rfl ?_ ?_ | refine leS_cons rfl ?_ ?_ | (show PLe _ _ _ _; conv => whnf) | (show SLe _ _ _ _; conv => whnf) | (show PLeL _ _ _ _; conv => whnf) | apply And.intro | rfl | exact Nat.le_refl _ | exact fun _ _ => rfl | exact rowEq0 _ _)
      · simp only [bp] at h1
        rw [hj] at h1
        conv => whnf
        refine ⟨?_, fun h2 => ?_, fun h2 => ?_⟩
        · exact g0
        · simp only [bp] at h2
          rw [hj, hj1] at h2
          have hE : rowE l (some ab) i = 4 := by
            unfold rowE
            rw [if_neg (by omega), if_pos]
            rcases h2 with h2 | h2
            · exact .inl ⟨by omega, h2.2⟩
            · exact .inr (decide_eq_true h2.2)
          have hh : scan (rowE l (some ab)) 0 l.length = 4 := by rw [← hs, ← hE]; exact scan_hit (show 0 < l.length - i by omega) (by rw [hE]; decide)
          rw [hh]
          conv => whnf
          refine ⟨?_, [], ?_⟩
          · exact g0
          conv => whnf
          refine ⟨rfl, ?_, trivial, trivial⟩
          all_goals repeat' (first | exact True.intro | refine leF_cons rfl ?_ ?_ | refine leS_cons rfl ?_ ?_ | (show PLe _ _ _ _; conv => whnf) | (show SLe _ _ _ _; conv => whnf) | (show PLeL _ _ _ _; conv => whnf) | apply And.intro | rfl | exact Nat.le_refl _ | exact fun _ _ => rfl | exact rowEq0 _ _)
        · simp only [bp] at h2
          rw [hj, hj1] at h2
          have hE : rowE l (some ab) i = 0 := by
            unfold rowE
            rw [if_neg (by omega), if_neg]
            rintro (h3 | h3)
            · obtain ⟨h4, h5⟩ := h3
              rcases h2.1 with h6 | h6
              · exact h6.2 h5
              · exact h6 (by omega)
            · exact h2.2 (of_decide_eq_true h3)
          have hh : scan (rowE l (some ab)) (i + 1) (l.length - (i + 1)) = scan (rowE l (some ab)) 0 l.length := by rw [← hs, scan_step (show 0 < l.length - i by omega) hE]; congr 1
          conv => whnf
          refine ⟨?_, i + 1, ⟨by omega, hh⟩, ?_, rfl, rfl, ?_, ?_⟩
          · exact g0
          · omega
          all_goals repeat' (first | exact True.intro | refine leF_cons rfl ?_ ?_ | refine leS_cons rfl ?_ ?_ | (show PLe _ _ _ _; conv => whnf) | (show SLe _ _ _ _; conv => whnf) | (show PLeL _ _ _ _; conv => whnf) | apply And.intro | rfl | exact Nat.le_refl _ | exact fun _ _ => rfl | exact rowEq0 _ _)
          all_goals omega
    · replace hc := of_decide_eq_false hc
      have : i = l.length := by omega
      subst this
      rw [← hs, Nat.sub_self]
      conv => whnf
      refine ⟨?_, [], ?_⟩
      · exact g0
      conv => whnf
      refine ⟨rfl, ?_, trivial, trivial⟩
      all_goals repeat' (first | exact True.intro | refine leF_cons rfl ?_ ?_ | refine leS_cons rfl ?_ ?_ | (show PLe _ _ _ _; conv => whnf) | (show SLe _ _ _ _; conv => whnf) | (show PLeL _ _ _ _; conv => whnf) | apply And.intro | rfl | exact Nat.le_refl _ | exact fun _ _ => rfl | exact rowEq0 _ _)
end Pv
end Go.Proofs.YtcfcmafmdpbjoaaDoor
/- LAW 24, THE WALKS: valid tables, the function. -/
set_option linter.unusedSimpArgs false
set_option linter.unusedVariables false
namespace Go.Proofs.YtcfcmafmdpbjoaaDoor
namespace Pv
structure FT where
  lv : List Int
  inf : List Int
  rel : List (List Int)
def eIs (σ : Nat) (m : List Int) : List PV := [.sl σ 1 m.length (fl eInt m)]
def eFT (τ σ : Nat) (t : FT) : List PV := [.sl τ 1 t.lv.length (fl eInt t.lv), .sl τ 1 t.inf.length (fl eInt t.inf), .sl τ 1 t.rel.length (fl (eIs σ) t.rel)]
def abO (rel : List (List Int)) : Nat → Option (List Int)
  | 0 => none
  | k + 1 => some (rel.getD k default)
def abV (τ : Nat) (rel : List (List Int)) : Nat → PV
  | 0 => .nil 1
  | k + 1 => .sl τ 1 (rel.getD k default).length (fl eInt (rel.getD k default))
def relE (t : FT) (i : Nat) : Int := rowF (t.rel.getD i default) (abO t.rel i) t.inf.length
def checkF (t : FT) : Int :=
  if t.lv.length < 1 ∨ 20 < t.lv.length ∨ t.inf.length < 1 ∨ 20 < t.inf.length then 42
  else if scan (riseE t.lv 16777216) 0 t.lv.length ≠ 0 then scan (riseE t.lv 16777216) 0 t.lv.length
  else if scan (riseE t.inf 1073741824) 0 t.inf.length ≠ 0 then scan (riseE t.inf 1073741824) 0 t.inf.length
  else if t.rel.length ≠ t.lv.length then 3 else scan (relE t) 0 t.rel.length
theorem rowF_len {l : List Int} {ab : Option (List Int)} {n : Int} (h : rowF l ab n = 0) : (l.length : Int) = n := by
  unfold rowF at h
  split at h
  · cases h
  · rename_i hh; omega
set_option maxRecDepth 100000 in
set_option maxHeartbeats 8000000 in
theorem call22 (τ σ : Nat) (t : FT) (h1 : t.lv.length ≤ 4611686018427387904) (h2 : t.inf.length ≤ 4611686018427387904) (h3 : t.rel.length ≤ 4611686018427387904) (h4 : ∀ i, i < t.rel.length → (t.rel.getD i default).length ≤ 4611686018427387904) :
    PureCall Tryd.prog 22 [.agg (eFT τ σ t)] [] ⟨.int .i64 (checkF t), [], []⟩ := by
  refine pure_call mix Tryd.func22 fits22 rfl ?_
  obtain ⟨lv, inf, rel⟩ := t
  dsimp only at h1 h2 h3 h4
  conv => whnf
  refine ⟨trivial, ?_⟩
  refine LSem.loop (n := 67) mix (α := Nat) (fun i => i ≤ 2 ∧ (0 < i → 1 ≤ lv.length ∧ lv.length ≤ 20) ∧ (1 < i → 1 ≤ inf.length ∧ inf.length ≤ 20))
    (fun i => [(1, .pt 16 0 0), (17, .os 272), (18, .int .i64 2), (19, .int .i64 i)])
    (fun i => [(16, .box [.sl τ 1 lv.length (fl eInt lv), .sl τ 1 inf.length (fl eInt inf), .sl τ 1 rel.length (fl (eIs σ) rel)]), (272, .row 0 3 1 2 (fun i => [[.int .i64 lv.length], [.int .i64 inf.length]].getD i []))]) (fun i => 2 - i) 0 ?_ ?_ ?_
  · exact ⟨Nat.zero_le _, fun h => by omega, fun h => by omega⟩
  · refine ⟨rfl, rfl, ?_, ?_⟩
    all_goals repeat' (first | exact True.intro | refine leF_cons rfl ?_ ?_ | refine leS_cons rfl ?_ ?_ | (show PLe _ _ _ _; conv => whnf) | (show SLe _ _ _ _; conv => whnf) | (show PLeL _ _ _ _; conv => whnf) | apply And.intro | rfl | exact Nat.le_refl _ | exact fun _ _ => rfl | exact rowEq0 _ _)
  · intro i hi
    obtain ⟨hi, k1, k2⟩ := hi
    have h012 : i = 0 ∨ i = 1 ∨ i = 2 := by omega
    rcases h012 with rfl | rfl | rfl
    · conv => whnf
      refine ⟨?_, fun _ => ?_, fun hc => absurd hc (by decide)⟩
      · exact g0
      conv => whnf
      refine ⟨?_, fun hc => ?_, fun hc => ?_⟩
      · exact g0
      · simp only [bp] at hc
        rw [show checkF ⟨lv, inf, rel⟩ = 42 by unfold checkF; rw [if_pos (by dsimp only; omega)]]
        conv => whnf
        refine ⟨?_, [], ?_⟩
        · exact g0
        conv => whnf
        refine ⟨rfl, ?_, trivial, trivial⟩
        all_goals repeat' (first | exact True.intro | refine leF_cons rfl ?_ ?_ | refine leS_cons rfl ?_ ?_ | (show PLe _ _ _ _; conv => whnf) | (show SLe _ _ _ _; conv => whnf) | (show PLeL _ _ _ _; conv => whnf) | apply And.intro | rfl | exact Nat.le_refl _ | exact fun _ _ => rfl | exact rowEq0 _ _)
      · simp only [bp] at hc
        conv => whnf
        refine ⟨?_, 1, ⟨by omega, fun _ => by omega, fun h => by omega⟩, ?_, rfl, rfl, ?_, ?_⟩
        · exact g0
        · omega
        all_goals repeat' (first | exact True.intro | refine leF_cons rfl ?_ ?_ | refine leS_cons rfl ?_ ?_ | (show PLe _ _ _ _; conv => whnf) | (show SLe _ _ _ _; conv => whnf) | (show PLeL _ _ _ _; conv => whnf) | apply And.intro | rfl | exact Nat.le_refl _ | exact fun _ _ => rfl | exact rowEq0 _ _)
    · conv => whnf
      refine ⟨?_, fun _ => ?_, fun hc => absurd hc (by decide)⟩
      · exact g0
      conv => whnf
      refine ⟨?_, fun hc => ?_, fun hc => ?_⟩
      · exact g0
      · simp only [bp] at hc
        rw [show checkF ⟨lv, inf, rel⟩ = 42 by unfold checkF; rw [if_pos (by dsimp only; omega)]]
        conv => whnf
        refine ⟨?_, [], ?_⟩
        · exact g0
        conv => whnf
        refine ⟨rfl, ?_, trivial, trivial⟩
        all_goals repeat' (first | exact True.intro | refine leF_cons rfl ?_ ?_ | refine leS_cons rfl ?_ ?_ | (show PLe _ _ _ _; conv => whnf) | (show SLe _ _ _ _; conv => whnf) | (show PLeL _ _ _ _; conv => whnf) | apply And.intro | rfl | exact Nat.le_refl _ | exact fun _ _ => rfl | exact rowEq0 _ _)
      · simp only [bp] at hc
        conv => whnf
        refine ⟨?_, 2, ⟨by omega, fun _ => k1 (by omega), fun _ => by omega⟩, ?_, rfl, rfl, ?_, ?_⟩
        · exact g0
        · omega
        all_goals repeat' (first | exact True.intro | refine leF_cons rfl ?_ ?_ | refine leS_cons rfl ?_ ?_ | (show PLe _ _ _ _; conv => whnf) | (show SLe _ _ _ _; conv => whnf) | (show PLeL _ _ _ _; conv => whnf) | apply And.intro | rfl | exact Nat.le_refl _ | exact fun _ _ => rfl | exact rowEq0 _ _)
    · have l1 := k1 (by omega)
      have l2 := k2 (by omega)
      have hf : checkF ⟨lv, inf, rel⟩ = if scan (riseE lv 16777216) 0 lv.length ≠ 0 then scan (riseE lv 16777216) 0 lv.length
          else if scan (riseE inf 1073741824) 0 inf.length ≠ 0 then scan (riseE inf 1073741824) 0 inf.length
          else if rel.length ≠ lv.length then 3 else scan (relE ⟨lv, inf, rel⟩) 0 rel.length := by
        unfold checkF; rw [if_neg (by dsimp only; omega)]
      rw [hf]
      clear hf k1 k2
      conv => whnf
      refine ⟨?_, fun hc => absurd hc (by decide), fun _ => ?_⟩
      · exact g0
      conv => whnf
      refine ⟨_, fun _ => call42 _ lv 16777216 (by omega), ?_⟩
      generalize scan (riseE lv 16777216) 0 lv.length = E1
      conv => whnf
      refine ⟨?_, fun hc => ?_, fun hc => ?_⟩
      · exact g0
      · simp only [bp] at hc
        rw [if_pos hc]
        conv => whnf
        refine ⟨?_, [], ?_⟩
        · exact g0
        conv => whnf
        refine ⟨rfl, ?_, trivial, trivial⟩
        all_goals repeat' (first | exact True.intro | refine leF_cons rfl ?_ ?_ | refine leS_cons rfl ?_ ?_ | (show PLe _ _ _ _; conv => whnf) | (show SLe _ _ _ _; conv => whnf) | (show PLeL _ _ _ _; conv => whnf) | apply And.intro | rfl | exact Nat.le_refl _ | exact fun _ _ => rfl | exact rowEq0 _ _)
      simp only [bp] at hc
      rw [if_neg (by omega)]
      conv => whnf
      refine ⟨_, fun _ => call42 _ inf 1073741824 (by omega), ?_⟩
      generalize scan (riseE inf 1073741824) 0 inf.length = E2
      conv => whnf
      refine ⟨?_, fun hc => ?_, fun hc => ?_⟩
      · exact g0
      · simp only [bp] at hc
        rw [if_pos hc]
        conv => whnf
        refine ⟨?_, [], ?_⟩
        · exact g0
        conv => whnf
        refine ⟨rfl, ?_, trivial, trivial⟩
        all_goals repeat' (first | exact True.intro | refine leF_cons rfl ?_ ?_ | refine leS_cons rfl ?_ ?_ | (show PLe _ _ _ _; conv => whnf) | (show SLe _ _ _ _; conv => whnf) | (show PLeL _ _ _ _; conv => whnf) | apply And.intro | rfl | exact Nat.le_refl _ | exact fun _ _ => rfl | exact rowEq0 _ _)
      simp only [bp] at hc
      rw [if_neg (by omega)]
      conv => whnf
      refine ⟨?_, fun hc => ?_, fun hc => ?_⟩
      · exact g0
      · simp only [bp] at hc
        rw [if_pos (by omega)]
        conv => whnf
        refine ⟨?_, [], ?_⟩
        · exact g0
        conv => whnf
        refine ⟨rfl, ?_, trivial, trivial⟩
        all_goals repeat' (first | exact True.intro | refine leF_cons rfl ?_ ?_ | refine leS_cons rfl ?_ ?_ | (show PLe _ _ _ _; conv => whnf) | (show SLe _ _ _ _; conv => whnf) | (show PLeL _ _ _ _; conv => whnf) | apply And.intro | rfl | exact Nat.le_refl _ | exact fun _ _ => rfl | exact rowEq0 _ _)
      simp only [bp] at hc
      rw [if_neg (by omega)]
      conv => whnf
      refine ⟨?_, ?_⟩
      · exact g0
      refine LSem.loop (n := 67) mix (α := Nat) (fun i => i ≤ rel.length ∧ scan (relE ⟨lv, inf, rel⟩) i (rel.length - i) = scan (relE ⟨lv, inf, rel⟩) 0 rel.length ∧ ∀ j, j < i → relE ⟨lv, inf, rel⟩ j = 0)
        (fun i => [(1, .pt 16 0 0), (7, abV τ rel i), (50, .sl τ 1 rel.length (fl (eIs σ) rel)), (51, .int .i64 rel.length), (52, .int .i64 i)])
        (fun i => [(16, .box [.sl τ 1 lv.length (fl eInt lv), .sl τ 1 inf.length (fl eInt inf), .sl τ 1 rel.length (fl (eIs σ) rel)])]) (fun i => rel.length - i) 0 ?_ ?_ ?_
      · exact ⟨Nat.zero_le _, rfl, fun j hj => by omega⟩
      · refine ⟨rfl, rfl, ?_, ?_⟩
        all_goals repeat' (first | exact True.intro | refine leF_cons rfl ?_ ?_ | refine leS_cons rfl ?_ ?_ | (show PLe _ _ _ _; conv => whnf) | (show SLe _ _ _ _; conv => whnf) | (show PLeL _ _ _ _; conv => whnf) | apply And.intro | rfl | exact Nat.le_refl _ | exact fun _ _ => rfl | exact rowEq0 _ _)
      · intro i hi
        obtain ⟨hi, hs, hall⟩ := hi
        have hj : ((i : Int)).toNat = i := by omega
        cases i with
        | zero =>
          conv => whnf
          refine ⟨trivial, fun hc => ?_, fun hc => ?_⟩
          · replace hc := of_decide_eq_true hc
            have hlt : 0 < rel.length := by
              have h : (0 : Int) < rel.length := hc
              omega
            have hl0 := h4 0 hlt
            conv => whnf
            refine ⟨_, fun _ => call43n _ (rel.getD (Int.toNat 0) default) inf.length (by rw [Int.toNat_zero]; omega), ?_⟩
            have hE : relE ⟨lv, inf, rel⟩ 0 = rowF (rel.getD 0 default) none inf.length := rfl
            rw [show rel.getD (Int.toNat 0) default = rel.getD 0 default from rfl]
            generalize rowF (rel.getD 0 default) none (inf.length : Int) = X at hE ⊢
            conv => whnf
            refine ⟨?_, fun hc1 => ?_, fun hc1 => ?_⟩
            · exact g0
            · simp only [bp] at hc1
              have hh : scan (relE ⟨lv, inf, rel⟩) 0 rel.length = X := by rw [← hE]; exact scan_hit hlt (by rw [hE]; exact hc1)
              rw [hh]
              conv => whnf
              refine ⟨?_, [], ?_⟩
              · exact g0
              conv => whnf
              refine ⟨rfl, ?_, trivial, trivial⟩
              all_goals repeat' (first | exact True.intro | refine leF_cons rfl ?_ ?_ | refine leS_cons rfl ?_ ?_ | (show PLe _ _ _ _; conv => whnf) | (show SLe _ _ _ _; conv => whnf) | (show PLeL _ _ _ _; conv => whnf) | apply And.intro | rfl | exact Nat.le_refl _ | exact fun _ _ => rfl | exact rowEq0 _ _)
            · simp only [bp] at hc1
              have hE0 : relE ⟨lv, inf, rel⟩ 0 = 0 := by rw [hE]; omega
              have hh : scan (relE ⟨lv, inf, rel⟩) 1 (rel.length - 1) = scan (relE ⟨lv, inf, rel⟩) 0 rel.length := by rw [scan_step hlt hE0]
              conv => whnf
              refine ⟨?_, 1, ⟨by omega, hh, fun j hj2 => ?_⟩, ?_, rfl, rfl, ?_, ?_⟩
              · exact g0
              · rw [show j = 0 by omega]; exact hE0
              · omega
              all_goals repeat' (first | exact True.intro | refine leF_cons rfl ?_ ?_ | refine leS_cons rfl ?_ ?_ | (show PLe _ _ _ _; conv => whnf) | (show SLe _ _ _ _; conv => whnf) | (show PLeL _ _ _ _; conv => whnf) | apply And.intro | rfl | exact Nat.le_refl _ | exact fun _ _ => rfl | exact rowEq0 _ _)
              all_goals first | omega | skip
          · replace hc := of_decide_eq_false hc
            have h0 : rel.length = 0 := by
              have h : ¬ (0 : Int) < rel.length := hc
              omega
            rw [h0]
            conv => whnf
            refine ⟨?_, [], ?_⟩
            · exact g0
            conv => whnf
            refine ⟨rfl, ?_, trivial, trivial⟩
            all_goals repeat' (first | exact True.intro | refine leF_cons rfl ?_ ?_ | refine leS_cons rfl ?_ ?_ | (show PLe _ _ _ _; conv => whnf) | (show SLe _ _ _ _; conv => whnf) | (show PLeL _ _ _ _; conv => whnf) | apply And.intro | rfl | exact Nat.le_refl _ | exact fun _ _ => rfl | exact rowEq0 _ _)
        | succ k =>
          conv => whnf
          refine ⟨trivial, fun hc => ?_, fun hc => ?_⟩
          · replace hc := of_decide_eq_true hc
            have hlt : k + 1 < rel.length := by
              have h : ((k + 1 : Nat) : Int) < rel.length := hc
              omega
            have hl0 := h4 (k + 1) hlt
            have hlk := rowF_len (hall k (by omega))
            dsimp only at hlk
            conv => whnf
            refine ⟨_, fun _ => call43s _ _ (rel.getD (((k + 1 : Nat) : Int)).toNat default) (rel.getD k default) inf.length (by rw [hj]; omega) hlk, ?_⟩
            rw [hj]
            have hE : relE ⟨lv, inf, rel⟩ (k + 1) = rowF (rel.getD (k + 1) default) (some (rel.getD k default)) inf.length := rfl
            generalize rowF (rel.getD (k + 1) default) (some (rel.getD k default)) (inf.length : Int) = X at hE ⊢
            conv => whnf
            refine ⟨?_, fun hc1 => ?_, fun hc1 => ?_⟩
            · exact g0
            · simp only [bp] at hc1
              have hh : scan (relE ⟨lv, inf, rel⟩) 0 rel.length = X := by rw [← hs, ← hE]; exact scan_hit (by omega) (by rw [hE]; exact hc1)
              rw [hh]
              conv => whnf
              refine ⟨?_, [], ?_⟩
              · exact g0
              conv => whnf
              refine ⟨rfl, ?_, trivial, trivial⟩
              all_goals repeat' (first | exact True.intro | refine leF_cons rfl ?_ ?_ | refine leS_cons rfl ?_ ?_ | (show PLe _ _ _ _; conv => whnf) | (show SLe _ _ _ _; conv => whnf) | (show PLeL _ _ _ _; conv => whnf) | apply And.intro | rfl | exact Nat.le_refl _ | exact fun _ _ => rfl | exact rowEq0 _ _)
            · simp only [bp] at hc1
              have hE0 : relE ⟨lv, inf, rel⟩ (k + 1) = 0 := by rw [hE]; omega
              have hh : scan (relE ⟨lv, inf, rel⟩) (k + 1 + 1) (rel.length - (k + 1 + 1)) = scan (relE ⟨lv, inf, rel⟩) 0 rel.length := by rw [← hs, scan_step (show 0 < rel.length - (k + 1) by omega) hE0]; congr 1
              conv => whnf
              refine ⟨?_, k + 1 + 1, ⟨by omega, hh, fun j hj2 => ?_⟩, ?_, rfl, rfl, ?_, ?_⟩
              · exact g0
              · by_cases e : j = k + 1
                · rw [e]; exact hE0
                · exact hall j (by omega)
              · omega
              all_goals repeat' (first | exact True.intro | refine leF_cons rfl ?_ ?_ | refine leS_cons rfl ?_ ?_ | (show PLe _ _ _ _; conv => whnf) | (show SLe _ _ _ _; conv => whnf) | (show PLeL _ _ _ _; conv => whnf) | apply And.intro | rfl | exact Nat.le_refl _ | exact fun _ _ => rfl | exact rowEq0 _ _)
              all_goals first | omega | (rw [hj]; exact fun _ _ => rfl) | (rw [hj]; done) | skip
          · replace hc := of_decide_eq_false hc
            have h0 : rel.length - (k + 1) = 0 := by
              have h : ¬ ((k + 1 : Nat) : Int) < rel.length := hc
              omega
            rw [← hs, h0]
            conv => whnf
            refine ⟨?_, [], ?_⟩
            · exact g0
            conv => whnf
            refine ⟨rfl, ?_, trivial, trivial⟩
            all_goals repeat' (first | exact True.intro | refine leF_cons rfl ?_ ?_ | refine leS_cons rfl ?_ ?_ | (show PLe _ _ _ _; conv => whnf) | (show SLe _ _ _ _; conv => whnf) | (show PLeL _ _ _ _; conv => whnf) | apply And.intro | rfl | exact Nat.le_refl _ | exact fun _ _ => rfl | exact rowEq0 _ _)
end Pv
end Go.Proofs.YtcfcmafmdpbjoaaDoor
/- LAW 24, THE WALKS: places in ascending numbers. -/
set_option linter.unusedSimpArgs false
set_option linter.unusedVariables false
namespace Go.Proofs.YtcfcmafmdpbjoaaDoor
namespace Pv
def c65 : C := (.seq (.reg [⟨(some 4), 64, none, .mv (.c (.bool false))⟩])
  (.seq (.drw [⟨(some 5), 80, none, .ld 1 false (.t 1)⟩,
    ⟨(some 6), 96, none, .mv (.t 0)⟩,
    ⟨(some 7), 112, none, .ia 1 (.t 5) (.t 6)⟩,
    ⟨(some 8), 128, none, .ld 1 false (.t 7)⟩,
    ⟨(some 9), 144, none, .ld 1 false (.t 2)⟩,
    ⟨(some 10), 160, none, .bi false .gtr (.t 8) (.t 9)⟩,
    ⟨(some 4), 64, none, .mv (.t 10)⟩]
    [(0, 1, 5), (0, 4, 5), (1, 4, 6), (2, 4, 7), (3, 4, 8)])
  .ret))
theorem fits65 : fits Tryd.prog false Tryd.f65 3 11 [(4, none)] = some c65.er := by kernel_rfl
def c64L1 : C := (.seq (.seq (.reg [⟨(some 9), 144, none, .mv (.t 5)⟩,
    ⟨(some 10), 160, none, .mv (.t 6)⟩,
    ⟨(some 11), 176, none, .bi false .lss (.t 9) (.t 10)⟩])
  (.cond (.t 11) .skip (.exit 0)))
  (.block 1 (.seq (.reg [⟨(some 12), 192, none, .mv (.t 5)⟩,
    ⟨(some 13), 208, none, .mv (.t 6)⟩,
    ⟨(some 14), 224, none, .bi false .add (.t 12) (.t 13)⟩,
    ⟨(some 15), 240, none, .cv false .u64 (.t 14)⟩,
    ⟨(some 16), 256, none, .bi false .shr (.t 15) (.c (.int .u64 1))⟩,
    ⟨(some 17), 272, none, .cv false .i64 (.t 16)⟩,
    ⟨(some 7), 112, none, .mv (.t 17)⟩])
  (.seq (.reg [⟨(some 18), 288, none, .mv (.t 1)⟩,
    ⟨(some 19), 304, none, .mv (.t 7)⟩,
    ⟨(some 20), 320, none, .call (.t 18) [(.t 19)]⟩,
    ⟨(some 21), 336, none, .un false .not (.t 20)⟩])
  (.cond (.t 21) (.reg [⟨(some 22), 352, none, .mv (.t 7)⟩,
    ⟨(some 23), 368, none, .bi false .add (.t 22) (.c (.int .i64 1))⟩,
    ⟨(some 5), 80, none, .mv (.t 23)⟩]) (.reg [⟨(some 24), 384, none, .mv (.t 7)⟩,
    ⟨(some 6), 96, none, .mv (.t 24)⟩]))))))
def c64 : C := (.seq (.reg [⟨(some 4), 64, none, .mv (.c (.int .i64 0))⟩])
  (.seq (.reg [⟨(some 8), 128, none, .mv (.t 0)⟩,
    ⟨(some 5), 80, none, .mv (.c (.int .i64 0))⟩,
    ⟨(some 6), 96, none, .mv (.t 8)⟩])
  (.seq (.block 0 (.loop c64L1))
  (.seq (.reg [⟨(some 25), 400, none, .mv (.t 5)⟩,
    ⟨(some 4), 64, none, .mv (.t 25)⟩])
  .ret))))
theorem fits64 : fits Tryd.prog false Tryd.f64 2 26 [(4, none)] = some c64.er := by kernel_rfl
def c54 : C := (.seq (.reg [⟨(some 2), 32, none, .bx 1 (.t 0)⟩,
    ⟨(some 3), 48, none, .bx 1 (.t 1)⟩,
    ⟨(some 4), 64, none, .mv (.c (.int .i64 0))⟩])
  (.seq (.reg [⟨(some 5), 80, none, .ld 1 false (.t 2)⟩,
    ⟨(some 6), 96, none, .len (.t 5)⟩,
    ⟨(some 7), 112, none, .mf (.func 65) [] [(.t 2), (.t 3)]⟩,
    ⟨(some 8), 128, none, .call (.c (.fn (.func 64) [] [])) [(.t 6), (.t 7)]⟩,
    ⟨(some 9), 144, none, .bi false .sub (.t 8) (.c (.int .i64 1))⟩,
    ⟨(some 10), 160, none, .mx [(.c (.int .i64 0)), (.t 9)]⟩,
    ⟨(some 4), 64, none, .mv (.t 10)⟩])
  .ret))
theorem fits54 : fits Tryd.prog false Tryd.f54 2 11 [(4, none)] = some c54.er := by kernel_rfl
theorem inU64_of {n : Int} (h0 : 0 ≤ n) (h1 : n ≤ 18446744073709551615) : inR .u64 n := ⟨h0, h1⟩
def fstN (p : Nat → Prop) [DecidablePred p] : Nat → Nat → Nat
  | i, 0 => i
  | i, k + 1 => if p i then i else fstN p (i + 1) k
theorem fstN_eq {p : Nat → Prop} [DecidablePred p] : ∀ {k i r : Nat}, i ≤ r → r ≤ i + k → (∀ j, i ≤ j → j < r → ¬ p j) → (r < i + k → p r) → fstN p i k = r
  | 0, i, r, h1, h2, _, _ => by unfold fstN; omega
  | k + 1, i, r, h1, h2, h3, h4 => by
    unfold fstN
    by_cases h : p i
    · rw [if_pos h]
      rcases Nat.lt_or_ge i r with h5 | h5
      · exact absurd h (h3 i (Nat.le_refl _) h5)
      · omega
    · rw [if_neg h]
      have : i ≠ r := fun e => h (by rw [e]; exact h4 (by omega))
      exact fstN_eq (by omega) (by omega) (fun j h5 h6 => h3 j (by omega) h6) (fun h5 => h4 (by omega))
theorem fstN_le (p : Nat → Prop) [DecidablePred p] : ∀ k i, i ≤ fstN p i k ∧ fstN p i k ≤ i + k
  | 0, i => by unfold fstN; omega
  | k + 1, i => by
    have := fstN_le p k (i + 1)
    unfold fstN; split <;> omega
abbrev bxS (τ : Nat) (l : List Int) (x : Int) : List SE := [.box [.sl (τ + 1) 1 l.length (fl eInt l)], .box [.int .i64 x]]
theorem call65 (τ : Nat) (l : List Int) (x : Int) (i : Nat) (hi : i < l.length) : PureCall Tryd.prog 65 [.int .i64 i, .pt 0 0 0, .pt 1 0 0] (bxS τ l x) ⟨.bool (decide (x < l.getD i default)), bxS τ l x, []⟩ := by
  have hj : ((i : Int)).toNat = i := by omega
  refine pure_call mix Tryd.func65 fits65 rfl ?_
  conv => whnf
  refine ⟨rfl, ?_⟩
  conv => whnf
  refine ⟨?_, [], ?_⟩
  · exact g0
  conv => whnf
  refine ⟨rfl, ?_, ?_, trivial⟩
  all_goals repeat' (first | exact True.intro | refine leF_cons rfl ?_ ?_ | refine leS_cons rfl ?_ ?_ | (show PLe _ _ _ _; conv => whnf) | (show SLe _ _ _ _; conv => whnf) | (show PLeL _ _ _ _; conv => whnf) | apply And.intro | rfl | exact Nat.le_refl _ | exact fun _ _ => rfl | exact rowEq0 _ _)
  all_goals (try rw [hj])
theorem call64 (τ : Nat) (l : List Int) (x : Int) (hl : l.length ≤ 1000000) (hm : ∀ i j, i ≤ j → j < l.length → x < l.getD i default → x < l.getD j default) :
    PureCall Tryd.prog 64 [.int .i64 l.length, .fn (.func 65) [] [.pt 0 0 0, .pt 1 0 0]] (bxS τ l x) ⟨.int .i64 (fstN (fun i => x < l.getD i default) 0 l.length), bxS τ l x, []⟩ := by
  refine pure_call mix Tryd.func64 fits64 rfl ?_
  conv => whnf
  refine ⟨trivial, ?_⟩
  refine LSem.loop (n := 26) mix (α := Nat × Nat) (fun s => s.1 ≤ s.2 ∧ s.2 ≤ l.length ∧ (∀ j, j < s.1 → ¬ x < l.getD j default) ∧ (s.2 < l.length → x < l.getD s.2 default))
    (fun s => [(0, .int .i64 l.length), (1, .fn (.func 65) [] [.pt 0 0 0, .pt 1 0 0]), (5, .int .i64 s.1), (6, .int .i64 s.2)])
    (fun s => [(0, .box [.sl (τ + 1) 1 l.length (fl eInt l)]), (1, .box [.int .i64 x])]) (fun s => s.2 - s.1) (0, l.length) ?_ ?_ ?_
  · exact ⟨Nat.zero_le _, Nat.le_refl _, fun j hj => by omega, fun h => by dsimp only at h; omega⟩
  · refine ⟨rfl, rfl, ?_, ?_⟩
    all_goals repeat' (first | exact True.intro | refine leF_cons rfl ?_ ?_ | refine leS_cons rfl ?_ ?_ | (show PLe _ _ _ _; conv => whnf) | (show SLe _ _ _ _; conv => whnf) | (show PLeL _ _ _ _; conv => whnf) | apply And.intro | rfl | exact Nat.le_refl _ | exact fun _ _ => rfl | exact rowEq0 _ _)
  · intro s hs
    obtain ⟨i, j⟩ := s
    obtain ⟨h1, h2, h3, h4⟩ := hs
    dsimp only at h1 h2 h3 h4
    conv => whnf
    refine ⟨trivial, fun hc => ?_, fun hc => ?_⟩
    · replace hc := of_decide_eq_true hc
      have hlt : i < j := by
        have h : (i : Int) < j := hc
        omega
      obtain ⟨h, hh⟩ : ∃ h : Nat, ((i : Int) + (j : Int)) / 2 = h := ⟨(i + j) / 2, by omega⟩
      have hh1 : i ≤ h ∧ h < j := by omega
      conv => whnf
      rw [hh]
      refine ⟨_, fun _ => call65 τ l x h (by omega), ?_⟩
      conv => whnf
      refine ⟨?_, fun hc2 => ?_, fun hc2 => ?_⟩
      · (try conv => whnf)
        (repeat' (first | exact True.intro | exact fun _ h => h | rfl | refine inR64_of ?_ ?_ | refine inU64_of ?_ ?_ | apply And.intro)) <;> (first | omega | (dsimp only; omega))
      · have hp : ¬ x < l.getD h default := by simpa using hc2
        conv => whnf
        refine ⟨?_, (h + 1, j), ⟨by dsimp only; omega, h2, fun k hk => ?_, h4⟩, ?_, rfl, rfl, ?_, ?_⟩
        · exact g0
        · intro hk2
          dsimp only at hk
          exact hp (hm k h (by omega) (by omega) hk2)
        · dsimp only; omega
        all_goals repeat' (first | exact True.intro | refine leF_cons rfl ?_ ?_ | refine leS_cons rfl ?_ ?_ | (show PLe _ _ _ _; conv => whnf) | (show SLe _ _ _ _; conv => whnf) | (show PLeL _ _ _ _; conv => whnf) | apply And.intro | rfl | exact Nat.le_refl _ | exact fun _ _ => rfl | exact rowEq0 _ _)
        all_goals first | omega | (rw [hh]; rfl) | (rw [hh]; dsimp only; omega) | skip
      · have hp : x < l.getD h default := by simpa using hc2
        conv => whnf
        refine ⟨?_, (i, h), ⟨by dsimp only; omega, by dsimp only; omega, h3, fun _ => hp⟩, ?_, rfl, rfl, ?_, ?_⟩
        · exact g0
        · dsimp only; omega
        all_goals repeat' (first | exact True.intro | refine leF_cons rfl ?_ ?_ | refine leS_cons rfl ?_ ?_ | (show PLe _ _ _ _; conv => whnf) | (show SLe _ _ _ _; conv => whnf) | (show PLeL _ _ _ _; conv => whnf) | apply And.intro | rfl | exact Nat.le_refl _ | exact fun _ _ => rfl | exact rowEq0 _ _)
        all_goals first | omega | (rw [hh]; done) | skip
    · replace hc := of_decide_eq_false hc
      have hge : i = j := by
        have h : ¬ (i : Int) < j := hc
        omega
      subst hge
      rw [show fstN (fun i => x < l.getD i default) 0 l.length = i from fstN_eq (Nat.zero_le _) (by omega) (fun k _ h => h3 k h) (fun h => h4 (by omega))]
      conv => whnf
      refine ⟨?_, [], ?_⟩
      · exact g0
      conv => whnf
      refine ⟨rfl, ?_, ?_, ?_⟩
      all_goals repeat' (first | exact True.intro | refine leF_cons rfl ?_ ?_ | refine leS_cons rfl ?_ ?_ | (show PLe _ _ _ _; conv => whnf) | (show SLe _ _ _ _; conv => whnf) | (show PLeL _ _ _ _; conv => whnf) | apply And.intro | rfl | exact Nat.le_refl _ | exact fun _ _ => rfl | exact rowEq0 _ _)
def placeF (l : List Int) (x : Int) : Int := mx 0 ((fstN (fun i => x < l.getD i default) 0 l.length : Int) - 1)
theorem call54 (τ : Nat) (l : List Int) (x : Int) (hl : l.length ≤ 1000000) (hm : ∀ i j, i ≤ j → j < l.length → x < l.getD i default → x < l.getD j default) :
    PureCall Tryd.prog 54 [.sl (τ + 1) 1 l.length (fl eInt l), .int .i64 x] [] ⟨.int .i64 (placeF l x), [], []⟩ := by
  refine pure_call mix Tryd.func54 fits54 rfl ?_
  conv => whnf
  refine ⟨_, fun _ => call64 τ l x hl hm, ?_⟩
  have hr := fstN_le (fun i => x < l.getD i default) l.length 0
  unfold placeF
  generalize fstN (fun i => x < l.getD i default) 0 l.length = r at hr ⊢
  conv => whnf
  refine ⟨?_, [], ?_⟩
  · exact g0
  conv => whnf
  refine ⟨rfl, ?_, trivial, trivial⟩
  all_goals repeat' (first | exact True.intro | refine leF_cons rfl ?_ ?_ | refine leS_cons rfl ?_ ?_ | (show PLe _ _ _ _; conv => whnf) | (show SLe _ _ _ _; conv => whnf) | (show PLeL _ _ _ _; conv => whnf) | apply And.intro | rfl | exact Nat.le_refl _ | exact fun _ _ => rfl | exact rowEq0 _ _)
end Pv
end Go.Proofs.YtcfcmafmdpbjoaaDoor
/- LAW 24, THE WALKS: releases. -/
set_option linter.unusedSimpArgs false
set_option linter.unusedVariables false
namespace Go.Proofs.YtcfcmafmdpbjoaaDoor
namespace Pv
def c39 : C := (.seq (.reg [⟨(some 3), 48, none, .bx 3 (.t 0)⟩,
    ⟨(some 6), 96, none, .mv (.c (.int .i64 0))⟩])
  (.seq (.drw [⟨(some 7), 112, none, .fa 2 (.t 3)⟩,
    ⟨(some 8), 128, none, .ld 1 false (.t 7)⟩,
    ⟨(some 9), 144, none, .fa 0 (.t 3)⟩,
    ⟨(some 10), 160, none, .ld 1 false (.t 9)⟩,
    ⟨(some 11), 176, none, .mv (.t 1)⟩,
    ⟨(some 12), 192, none, .call (.c (.fn (.func 54) [] [])) [(.t 10), (.t 11)]⟩,
    ⟨(some 13), 208, none, .ia 1 (.t 8) (.t 12)⟩,
    ⟨(some 14), 224, none, .ld 1 false (.t 13)⟩,
    ⟨(some 15), 240, none, .fa 1 (.t 3)⟩,
    ⟨(some 16), 256, none, .ld 1 false (.t 15)⟩,
    ⟨(some 17), 272, none, .mv (.t 2)⟩,
    ⟨(some 18), 288, none, .call (.c (.fn (.func 54) [] [])) [(.t 16), (.t 17)]⟩,
    ⟨(some 19), 304, none, .ia 1 (.t 14) (.t 18)⟩,
    ⟨(some 20), 320, none, .ld 1 false (.t 19)⟩,
    ⟨(some 6), 96, none, .mv (.t 20)⟩]
    [(0, 2, 7), (0, 3, 7), (0, 4, 7), (0, 5, 7), (0, 8, 7), (0, 9, 7), (0, 10, 7), (0, 11, 7), (1, 2, 8), (1, 3, 8), (1, 4, 8), (1, 5, 8), (1, 8, 8), (1, 9, 8), (1, 10, 8), (1, 11, 8), (2, 4, 9), (2, 8, 9), (2, 9, 9), (2, 10, 9), (3, 4, 10), (3, 8, 10), (3, 9, 10), (3, 10, 10), (4, 8, 11), (4, 9, 11), (4, 10, 11), (5, 8, 12), (5, 9, 12), (5, 10, 12), (6, 8, 13), (6, 9, 13), (6, 10, 13), (6, 11, 13), (7, 8, 14), (7, 9, 14), (7, 10, 14), (7, 11, 14), (8, 10, 15), (9, 10, 16)])
  .ret))
theorem fits39 : fits Tryd.prog false Tryd.f39 3 21 [(6, none)] = some c39.er := by kernel_rfl
def c19 : C := (.seq (.reg [⟨(some 3), 48, none, .bx 3 (.t 0)⟩,
    ⟨(some 6), 96, none, .mv (.c (.int .i64 0))⟩,
    ⟨(some 7), 112, none, .mv (.c (.int .i64 0))⟩])
  (.seq (.seq (.reg [⟨(some 9), 144, none, .ld 3 true (.t 3)⟩,
    ⟨(some 10), 160, none, .call (.c (.fn (.func 22) [] [])) [(.t 9)]⟩,
    ⟨(some 8), 128, none, .mv (.t 10)⟩])
  (.seq (.reg [⟨(some 11), 176, none, .mv (.t 8)⟩,
    ⟨(some 12), 192, none, .bi false .neq (.t 11) (.c (.int .i64 0))⟩])
  (.cond (.t 12) (.seq (.reg [⟨(some 13), 208, none, .mv (.t 8)⟩,
    ⟨(some 6), 96, none, .mv (.c (.int .i64 0))⟩,
    ⟨(some 7), 112, none, .mv (.t 13)⟩])
  .ret) .skip)))
  (.seq (.seq (.reg [⟨(some 14), 224, none, .mv (.t 1)⟩,
    ⟨(some 15), 240, none, .bi false .lss (.t 14) (.c (.int .i64 0))⟩,
    ⟨(some 16), 256, none, .mv (.t 15)⟩,
    ⟨(some 17), 272, (some (16, false)), .mv (.t 1)⟩,
    ⟨(some 18), 288, (some (16, false)), .bi false .gtr (.t 17) (.c (.int .i64 16777216))⟩,
    ⟨(some 19), 304, none, .pick (.t 16) (.c (.bool true)) (.t 18)⟩,
    ⟨(some 20), 320, none, .mv (.t 19)⟩,
    ⟨(some 21), 336, (some (20, false)), .mv (.t 2)⟩,
    ⟨(some 22), 352, (some (20, false)), .bi false .lss (.t 21) (.c (.int .i64 0))⟩,
    ⟨(some 23), 368, none, .pick (.t 20) (.c (.bool true)) (.t 22)⟩,
    ⟨(some 24), 384, none, .mv (.t 23)⟩,
    ⟨(some 25), 400, (some (24, false)), .mv (.t 2)⟩,
    ⟨(some 26), 416, (some (24, false)), .bi false .gtr (.t 25) (.c (.int .i64 1073741824))⟩,
    ⟨(some 27), 432, none, .pick (.t 24) (.c (.bool true)) (.t 26)⟩])
  (.cond (.t 27) (.seq (.reg [⟨(some 6), 96, none, .mv (.c (.int .i64 0))⟩,
    ⟨(some 7), 112, none, .mv (.c (.int .i64 1))⟩])
  .ret) .skip))
  (.seq (.reg [⟨(some 28), 448, none, .ld 3 true (.t 3)⟩,
    ⟨(some 29), 464, none, .mv (.t 1)⟩,
    ⟨(some 30), 480, none, .mv (.t 2)⟩,
    ⟨(some 31), 496, none, .call (.c (.fn (.func 39) [] [])) [(.t 28), (.t 29), (.t 30)]⟩,
    ⟨(some 6), 96, none, .mv (.t 31)⟩,
    ⟨(some 7), 112, none, .mv (.c (.int .i64 0))⟩])
  .ret))))
theorem fits19 : fits Tryd.prog false Tryd.f19 3 32 [(6, none), (7, none)] = some c19.er := by kernel_rfl
def atF (t : FT) (level inflow : Int) : Int := (t.rel.getD (placeF t.lv level).toNat default).getD (placeF t.inf inflow).toNat default
theorem place_rng {l : List Int} (x : Int) (h : 0 < l.length) : 0 ≤ placeF l x ∧ (placeF l x).toNat < l.length := by
  have hr := fstN_le (fun i => x < l.getD i default) l.length 0
  unfold placeF mx
  split <;> omega
theorem rise_mono {l : List Int} {most : Int} (h : ∀ i, i < l.length → riseE l most i = 0) : ∀ (k i : Nat), i + k < l.length → l.getD i default ≤ l.getD (i + k) default
  | 0, i, _ => Int.le_refl _
  | k + 1, i, hk => by
    have h1 := rise_mono h k i (by omega)
    have h2 := h (i + (k + 1)) hk
    unfold riseE at h2
    split at h2
    · cases h2
    · split at h2
      · cases h2
      · rename_i h4
        rw [show i + (k + 1) - 1 = i + k by omega] at h4
        omega
structure TabOK (t : FT) : Prop where
  l1 : 1 ≤ t.lv.length ∧ t.lv.length ≤ 20
  l2 : 1 ≤ t.inf.length ∧ t.inf.length ≤ 20
  r1 : ∀ i, i < t.lv.length → riseE t.lv 16777216 i = 0
  r2 : ∀ i, i < t.inf.length → riseE t.inf 1073741824 i = 0
  l3 : t.rel.length = t.lv.length
  e3 : ∀ i, i < t.rel.length → relE t i = 0
theorem check_ok {t : FT} (h : checkF t = 0) : TabOK t := by
  unfold checkF at h
  split at h
  · cases h
  · rename_i h1
    split at h
    · rename_i h2; exact absurd h h2
    · rename_i h2
      split at h
      · rename_i h3; exact absurd h h3
      · rename_i h3
        split at h
        · cases h
        · rename_i h4
          have z1 := scan_zero (show scan (riseE t.lv 16777216) 0 t.lv.length = 0 by omega)
          have z2 := scan_zero (show scan (riseE t.inf 1073741824) 0 t.inf.length = 0 by omega)
          have z3 := scan_zero h
          exact ⟨by omega, by omega, fun i hi => z1 i (Nat.zero_le _) (by omega), fun i hi => z2 i (Nat.zero_le _) (by omega), by omega, fun i hi => z3 i (Nat.zero_le _) (by omega)⟩
theorem TabOK.row {t : FT} (h : TabOK t) {i : Nat} (hi : i < t.rel.length) : (t.rel.getD i default).length = t.inf.length := by
  have := rowF_len (h.e3 i hi); omega
theorem TabOK.m1 {t : FT} (h : TabOK t) (x : Int) : ∀ i j, i ≤ j → j < t.lv.length → x < t.lv.getD i default → x < t.lv.getD j default := fun i j h1 h2 h3 => by
  have := rise_mono h.r1 (j - i) i (by omega)
  rw [show i + (j - i) = j by omega] at this; omega
theorem TabOK.m2 {t : FT} (h : TabOK t) (x : Int) : ∀ i j, i ≤ j → j < t.inf.length → x < t.inf.getD i default → x < t.inf.getD j default := fun i j h1 h2 h3 => by
  have := rise_mono h.r2 (j - i) i (by omega)
  rw [show i + (j - i) = j by omega] at this; omega
set_option maxRecDepth 100000 in
set_option maxHeartbeats 4000000 in
theorem call39 (τ σ : Nat) (t : FT) (level inflow : Int) (ht : TabOK t) : PureCall Tryd.prog 39 [.agg (eFT (τ + 1) σ t), .int .i64 level, .int .i64 inflow] [] ⟨.int .i64 (atF t level inflow), [], []⟩ := by
  have hl1 := ht.l1
  have hl2 := ht.l2
  have p1 := place_rng level (l := t.lv) (by omega)
  have p2 := place_rng inflow (l := t.inf) (by omega)
  have hrow := ht.row (i := (placeF t.lv level).toNat) (by rw [ht.l3]; exact p1.2)
  have hl3 := ht.l3
  refine pure_call mix Tryd.func39 fits39 rfl ?_
  conv => whnf
  refine ⟨_, fun _ => call54 τ t.lv level (by omega) (ht.m1 level), ?_⟩
  conv => whnf
  refine ⟨_, fun _ => call54 τ t.inf inflow (by omega) (ht.m2 inflow), ?_⟩
  unfold atF
  generalize placeF t.lv level = a at p1 hrow ⊢
  generalize placeF t.inf inflow = b at p2 ⊢
  conv => whnf
  refine ⟨rfl, ?_⟩
  conv => whnf
  refine ⟨?_, [], ?_⟩
  · exact g0
  conv => whnf
  refine ⟨rfl, ?_, trivial, trivial⟩
  all_goals repeat' (first | exact True.intro | refine leF_cons rfl ?_ ?_ | refine leS_cons rfl ?_ ?_ | (show PLe _ _ _ _; conv => whnf) | (show SLe _ _ _ _; conv => whnf) | (show PLeL _ _ _ _; conv => whnf) | apply And.intro | rfl | exact Nat.le_refl _ | exact fun _ _ => rfl | exact rowEq0 _ _)
def relF (t : FT) (level inflow : Int) : Int × Int :=
  if checkF t ≠ 0 then (0, checkF t) else if level < 0 ∨ 16777216 < level ∨ inflow < 0 ∨ 1073741824 < inflow then (0, 1) else (atF t level inflow, 0)
set_option maxRecDepth 100000 in
set_option maxHeartbeats 4000000 in
theorem call19 (τ σ : Nat) (t : FT) (level inflow : Int) (h1 : t.lv.length ≤ 4611686018427387904) (h2 : t.inf.length ≤ 4611686018427387904) (h3 : t.rel.length ≤ 4611686018427387904) (h4 : ∀ i, i < t.rel.length → (t.rel.getD i default).length ≤ 4611686018427387904) :
    PureCall Tryd.prog 19 [.agg (eFT (τ + 1) σ t), .int .i64 level, .int .i64 inflow] [] ⟨.tup [.int .i64 (relF t level inflow).1, .int .i64 (relF t level inflow).2], [], []⟩ := by
  refine pure_call mix Tryd.func19 fits19 rfl ?_
  conv => whnf
  refine ⟨_, fun _ => call22 (τ + 1) σ t h1 h2 h3 h4, ?_⟩
  have hok := check_ok (t := t)
  unfold relF
  generalize checkF t = E at hok ⊢
  conv => whnf
  refine ⟨?_, fun hc => ?_, fun hc => ?_⟩
  · exact g0
  · simp only [bp] at hc
    rw [if_pos hc]
    conv => whnf
    refine ⟨?_, [], ?_⟩
    · exact g0
    conv => whnf
    refine ⟨rfl, ?_, trivial, trivial⟩
    all_goals repeat' (first | exact True.intro | refine leF_cons rfl ?_ ?_ | refine leS_cons rfl ?_ ?_ | (show PLe _ _ _ _; conv => whnf) | (show SLe _ _ _ _; conv => whnf) | (show PLeL _ _ _ _; conv => whnf) | apply And.intro | rfl | exact Nat.le_refl _ | exact fun _ _ => rfl | exact rowEq0 _ _)
  simp only [bp] at hc
  rw [if_neg (by omega)]
  have ht := hok (by omega)
  conv => whnf
  refine ⟨?_, fun hc2 => ?_, fun hc2 => ?_⟩
  · exact g0
  · simp only [bp] at hc2
    rw [if_pos (by omega)]
    conv => whnf
    refine ⟨?_, [], ?_⟩
    · exact g0
    conv => whnf
    refine ⟨rfl, ?_, trivial, trivial⟩
    all_goals repeat' (first | exact True.intro | refine leF_cons rfl ?_ ?_ | refine leS_cons rfl ?_ ?_ | (show PLe _ _ _ _; conv => whnf) | (show SLe _ _ _ _; conv => whnf) | (show PLeL _ _ _ _; conv => whnf) | apply And.intro | rfl | exact Nat.le_refl _ | exact fun _ _ => rfl | exact rowEq0 _ _)
  simp only [bp] at hc2
  rw [if_neg (by omega)]
  conv => whnf
  refine ⟨_, fun _ => call39 τ σ t level inflow ht, ?_⟩
  conv => whnf
  refine ⟨?_, [], ?_⟩
  · exact g0
  conv => whnf
  refine ⟨rfl, ?_, trivial, trivial⟩
  all_goals repeat' (first | exact True.intro | refine leF_cons rfl ?_ ?_ | refine leS_cons rfl ?_ ?_ | (show PLe _ _ _ _; conv => whnf) | (show SLe _ _ _ _; conv => whnf) | (show PLeL _ _ _ _; conv => whnf) | apply And.intro | rfl | exact Nat.le_refl _ | exact fun _ _ => rfl | exact rowEq0 _ _)
end Pv
end Go.Proofs.YtcfcmafmdpbjoaaDoor
/- LAW 24, THE WALKS: made tables: levels and inflows. -/
set_option linter.unusedSimpArgs false
set_option linter.unusedVariables false
namespace Go.Proofs.YtcfcmafmdpbjoaaDoor
namespace Pv
def c26L1 : C := (.seq (.seq (.reg [⟨(some 17), 272, none, .mv (.t 9)⟩,
    ⟨(some 18), 288, none, .bi false .geq (.t 17) (.c (.int .i64 0))⟩])
  (.cond (.t 18) .skip (.exit 0)))
  (.seq (.block 1 (.seq (.reg [⟨(some 21), 336, none, .mv (.t 7)⟩,
    ⟨(some 22), 352, none, .mv (.t 8)⟩,
    ⟨(some 23), 368, none, .bs 3 1 [(.t 22)]⟩,
    ⟨(some 24), 384, none, .app 3 1 8 (.t 21) (.t 23)⟩,
    ⟨(some 7), 112, none, .mv (.t 24)⟩])
  (.reg [⟨(some 25), 400, none, .mv (.t 8)⟩,
    ⟨(some 26), 416, none, .mv (.t 0)⟩,
    ⟨(some 27), 432, none, .mv (.t 2)⟩,
    ⟨(some 28), 448, none, .call (.c (.fn (.func 27) [] [])) [(.t 26), (.t 27)]⟩,
    ⟨(some 29), 464, none, .bi false .add (.c (.int .i64 1)) (.t 28)⟩,
    ⟨(some 30), 480, none, .bi false .add (.t 25) (.t 29)⟩,
    ⟨(some 8), 128, none, .mv (.t 30)⟩])))
  (.reg [⟨(some 19), 304, none, .mv (.t 9)⟩,
    ⟨(some 20), 320, none, .bi false .sub (.t 19) (.c (.int .i64 1))⟩,
    ⟨(some 9), 144, none, .mv (.t 20)⟩])))
def c26 : C := (.seq (.reg [⟨(some 6), 96, none, .mv (.c (.nil 1))⟩])
  (.seq (.reg [⟨(some 7), 112, none, .mv (.c (.nil 1))⟩])
  (.seq (.reg [⟨(some 10), 160, none, .mv (.t 1)⟩,
    ⟨(some 11), 176, none, .mv (.t 0)⟩,
    ⟨(some 12), 192, none, .mv (.t 2)⟩,
    ⟨(some 13), 208, none, .call (.c (.fn (.func 27) [] [])) [(.t 11), (.t 12)]⟩,
    ⟨(some 14), 224, none, .bi false .add (.t 10) (.t 13)⟩,
    ⟨(some 8), 128, none, .mv (.t 14)⟩])
  (.seq (.seq (.reg [⟨(some 15), 240, none, .mv (.t 0)⟩,
    ⟨(some 16), 256, none, .call (.c (.fn (.func 27) [] [])) [(.t 15), (.c (.int .i64 4))]⟩,
    ⟨(some 9), 144, none, .mv (.t 16)⟩])
  (.block 0 (.loop c26L1)))
  (.seq (.reg [⟨(some 31), 496, none, .mv (.t 7)⟩,
    ⟨(some 6), 96, none, .mv (.t 31)⟩])
  .ret)))))
theorem fits26 : fits Tryd.prog false Tryd.f26 3 32 [(6, none)] = some c26.er := by kernel_rfl
structure Axs where
  l : List Int
  x : Int
  d : Dk
def axN (step : Int) (s : Axs) : Axs := ⟨s.l ++ [s.x], s.x + (1 + nxt s.d step), nxtD s.d step⟩
def axI (step : Int) : Nat → Axs → Axs
  | 0, s => s
  | k + 1, s => axI step k (axN step s)
def axisS (d : Dk) (start step : Int) : Axs := axI step ((nxt (nxtD d step) 4).toNat + 1) ⟨[], start + nxt d step, nxtD (nxtD d step) 4⟩
set_option maxRecDepth 100000 in
set_option maxHeartbeats 4000000 in
theorem call26 (d : Dk) (start step : Int) (hd : d.at_ ≤ 1000000) (h1 : 0 ≤ start ∧ start ≤ 1000) (h2 : 1 ≤ step ∧ step ≤ 1000) : PureCall Tryd.prog 26 [.pt 0 0 0, .int .i64 start, .int .i64 step] [.box (eDk 1 d)]
    ⟨.sl 0 1 (axisS d start step).l.length (fl eInt (axisS d start step).l), [.box (eDk 1 (axisS d start step).d)], []⟩ := by
  refine pure_call mix Tryd.func26 fits26 rfl ?_
  conv => whnf
  have r1 := nxt_lt d (n := step) (by omega)
  have a1 := nxtD_at d step
  refine ⟨_, fun _ => call_next 1 d step (by omega) (by omega), ?_⟩
  conv => whnf
  have r2 := nxt_lt (nxtD d step) (n := 4) (by omega)
  have a2 := nxtD_at (nxtD d step) 4
  refine ⟨_, fun _ => call_next 1 (nxtD d step) 4 (by omega) (by omega), ?_⟩
  conv => whnf
  refine ⟨?_, ?_⟩
  · exact g0
  refine LSem.adopt 7 1000000 3 1 1 rfl rfl ?_
  refine LSem.loop (n := 32) mix (α := Nat × Axs) (fun s => s.1 ≤ 4 ∧ axI step s.1 s.2 = axisS d start step ∧ s.2.l.length + s.1 ≤ 4 ∧ s.2.d.at_ + s.1 ≤ 1000010 ∧ 0 ≤ s.2.x ∧ s.2.x + 2000 * (s.1 : Int) ≤ 20000)
    (fun s => [(0, .pt 0 0 0), (2, .int .i64 step), (7, .os 1000000), (8, .int .i64 s.2.x), (9, .int .i64 ((s.1 : Int) - 1))])
    (fun s => [(0, .box (eDk 1 s.2.d)), (1000000, .row 0 3 1 s.2.l.length (fl eInt s.2.l))]) (fun s => s.1) ((nxt (nxtD d step) 4).toNat + 1, ⟨[], start + nxt d step, nxtD (nxtD d step) 4⟩) ?_ ?_ ?_
  · refine ⟨by dsimp only; omega, rfl, ?_, ?_, ?_, ?_⟩ <;> dsimp only
    · rw [List.length_nil]; omega
    · omega
    · omega
    · omega
  · refine ⟨rfl, rfl, ?_, ?_⟩
    all_goals repeat' (first | exact True.intro | refine leF_cons rfl ?_ ?_ | refine leS_cons rfl ?_ ?_ | (show PLe _ _ _ _; conv => whnf) | (show SLe _ _ _ _; conv => whnf) | (show PLeL _ _ _ _; conv => whnf) | apply And.intro | rfl | exact Nat.le_refl _ | exact fun _ _ => rfl | exact rowEq0 _ _)
    all_goals first | omega | (dsimp only; omega) | skip
  · intro s hs
    obtain ⟨k, l, x, e⟩ := s
    obtain ⟨k1, k2, k3, k4, k5, k6⟩ := hs
    dsimp only at k1 k2 k3 k4 k5 k6
    conv => whnf
    refine ⟨trivial, fun hc => ?_, fun hc => ?_⟩
    · replace hc := of_decide_eq_true hc
      have hk : 0 < k := by
        have h : (0 : Int) ≤ (k : Int) - 1 := hc
        omega
      have r3 := nxt_lt e (n := step) (by omega)
      have a3 := nxtD_at e step
      have q := fl_push eInt l x
      conv => whnf
      refine ⟨_, fun _ => call_next 1 e step (by omega) (by omega), ?_⟩
      conv => whnf
      refine ⟨?_, (k - 1, axN step ⟨l, x, e⟩), ⟨?_, ?_, ?_, ?_, ?_, ?_⟩, ?_, rfl, rfl, ?_, ?_⟩
      · exact g0
      · dsimp only; omega
      · rw [← k2]; dsimp only
        rw [show k = (k - 1) + 1 by omega]; rfl
      · dsimp only [axN]; rw [List.length_append, List.length_cons, List.length_nil]; omega
      · dsimp only [axN]; omega
      · dsimp only [axN]; omega
      · dsimp only [axN]; omega
      · dsimp only; omega
      all_goals repeat' (first | exact True.intro | refine leF_cons rfl ?_ ?_ | refine leS_cons rfl ?_ ?_ | (show PLe _ _ _ _; conv => whnf) | (show SLe _ _ _ _; conv => whnf) | (show PLeL _ _ _ _; conv => whnf) | apply And.intro | rfl | exact Nat.le_refl _ | exact fun _ _ => rfl | exact rowEq0 _ _)
      all_goals (try dsimp only [axN])
      all_goals first | omega | exact q | (simp only [List.length_append, List.length_cons, List.length_nil]; done) | skip
    · replace hc := of_decide_eq_false hc
      have hk : k = 0 := by
        have h : ¬ (0 : Int) ≤ (k : Int) - 1 := hc
        omega
      subst hk
      rw [← k2]
      conv => whnf
      refine ⟨?_, [], ?_⟩
      · exact g0
      conv => whnf
      refine ⟨rfl, ?_, ?_, trivial⟩
      all_goals repeat' (first | exact True.intro | refine leF_cons rfl ?_ ?_ | refine leS_cons rfl ?_ ?_ | (show PLe _ _ _ _; conv => whnf) | (show SLe _ _ _ _; conv => whnf) | (show PLeL _ _ _ _; conv => whnf) | apply And.intro | rfl | exact Nat.le_refl _ | exact fun _ _ => rfl | exact rowEq0 _ _)
end Pv
end Go.Proofs.YtcfcmafmdpbjoaaDoor
set_option linter.unusedSimpArgs false
set_option linter.unusedVariables false
namespace Go.Proofs.YtcfcmafmdpbjoaaDoor
namespace Pv
open Go.RowKit
def IntsIn (w : World) (g : Nat) (T : TypeId) (cap : Nat) (l : List Int) : Prop :=
  ∃ (cur : Array Value) (fz : Nat × Nat), w.heap[g]? = some (.cells cur T fz) ∧ fzOff cur.size fz ∧ l.length ≤ cap ∧ cap ≤ maxLen ∧ cur.size = cap * 1 ∧ cur.toList.take (l.length * 1) = l.map (Value.int .i64)
def InPlace (P : Program) (F : FuncId) (l l' : List Int) (back : Bool) : Prop :=
  (∃ fn, P.funcs[F]? = some fn ∧ fn.body.isSome = true ∧ (fn.name == "runtime.NumGoroutine") = false) ∧
  ∀ (w : World) (g cap : Nat) (T : TypeId), IntsIn w g T cap l → Calls P F #[.slice (some ⟨g, 0, none⟩) l.length cap] w fun e w' =>
    e = .returned (if back then .slice (some ⟨g, 0, none⟩) l'.length cap else .tuple #[]) ∧ Keeps (· = g) w w' ∧ IntsIn w' g T cap l'
section
variable {P : Program} {X : Cx} {γ : Gh} {w w0 : World} {may : Nat → Prop} {a : Act} {s : PS}
theorem call_wp {wr : Bool} {o : Oper} {F : FuncId} {y : A} {p : PV} {K : Act → World → Prop} {Q : Exit → Act → World → Prop} {R : Value → World → Prop}
    (hR : Rel X w0 may a w s γ) (hc : compI P wr o = some (.call (.c (.fn (.func F) [] [])) [y])) (hv : A.val s.fr y = some p)
    (hfn : ∃ fn, P.funcs[F]? = some fn ∧ fn.body.isSome = true ∧ (fn.name == "runtime.NumGoroutine") = false)
    (hC : ∀ v, Rep X γ w p v → Calls P F #[v] w fun e w' => ∃ u, e = .returned u ∧ R u w') (hK : ∀ u w', R u w' → K (a.put o.dst u) w') : o.wp P a w K Q := by
  have H := eval_opd hR
  have hcall : ∃ cl f y' ys, o.op = .call cl ∧ cl.callee = .value f ∧ arg f = some y' ∧ mapO (fun (q : Operand × TypeId) => argT P q.2 q.1) (cl.args.toList.zip cl.argTypes.toList) = some ys ∧ cl.args.size = cl.argTypes.size ∧ y' = .c (.fn (.func F) [] []) ∧ ys = [y] := by
    revert hc
    unfold compI
    intro hc
    repeat' (split at hc)
    all_goals first
      | (cases hc; done)
      | (injection hc with hc; injection hc; done)
      | (obtain ⟨y, hy, hh⟩ := Option.map_eq_some_iff.1 hc; cases hh; done)
      | (injection hc with hc; injection hc with e1 e2
         rename_i _ cl hop _ f hcal _ _ y' ys hy hys hsz
         exact ⟨_, _, _, _, hop, hcal, hy, hys, by simpa using hsz, e1, e2⟩)
  obtain ⟨cl, f, y', ys, hop, hcal, hy, hys, hsz, rfl, rfl⟩ := hcall
  have hz : (cl.args.toList.zip cl.argTypes.toList).map (fun q => a.eval q.1) = (cl.args.map a.eval).toList := by
    have hl : cl.args.toList.length = cl.argTypes.toList.length := by simpa using hsz
    have h1 : (cl.args.toList.zip cl.argTypes.toList).map (fun q => q.1) = cl.args.toList := List.map_fst_zip (by omega)
    rw [show (fun q : Operand × TypeId => a.eval q.1) = a.eval ∘ (fun q => q.1) from rfl, ← List.map_map, h1]
    simp
  have hr1 : Rep X γ w (.fn (.func F) [] []) (a.eval f) := arg_rep H hy (by rfl)
  have hr2 : RepL X γ w [p] (cl.args.map a.eval).toList := by
    have := argsT_rep (P := P) (α := Operand × TypeId) H (fun q => q.2) (fun q => q.1) (xs := cl.args.toList.zip cl.argTypes.toList) (ys := [y]) (ps := [p]) hys (by simp only [valL, hv])
    rwa [hz] at this
  obtain ⟨v, us, hvs, hrv, hrus⟩ := hr2.cons_inv
  have hus := hrus.nil_inv
  subst hus
  obtain ⟨fn, hfn1, hbody, hname⟩ := hfn
  have hfe : ∀ fv, Rep X γ w (.fn (.func F) [] []) fv → fv = .func (.func F) #[] #[] := by
    intro fv h
    cases h with
    | fn _ _ _ vs us hvl hul h h' =>
      have e1 : vs = [] := List.eq_nil_of_length_eq_zero hvl
      have e2 : us = [] := List.eq_nil_of_length_eq_zero hul
      subst e1 e2
      rfl
  have hfe := hfe _ hr1
  have hrun : (execOp a.eval o).run P w = .ok (.enter F #[v]) w := by
    unfold execOp
    rw [hop]
    have hb : fn.body ≠ none := by intro h; rw [h] at hbody; cases hbody
    have hnm : fn.name ≠ "runtime.NumGoroutine" := by simpa using hname
    have hav : cl.args.map a.eval = #[v] := by rw [← Array.toList_inj, hvs]
    simp [resolve, hcal, hfe, Deferred.ofValue, invoke, callFunc, hfn1, hb, hnm, hav]
  unfold Oper.wp
  rw [hrun]
  simp only [Oper.upon]
  refine (hC v hrv).mono ?_
  rintro e w' ⟨u, rfl, hu⟩
  exact hK u w' hu
/-! ### a row of numbers -/
theorem row_ints {ge : GE} {τ e : Nat} {f : Nat → List PV} {l : List Int} (h : RepS X γ w ge (.row τ e 1 l.length f)) (hf : RowEq l.length f (fl (fun n : Int => [PV.int .i64 n]) l)) (hl : 0 < l.length) :
    ∃ g cap, ge.hdr = .slice (some ⟨g, 0, none⟩) l.length cap ∧ ge.blk = some g ∧ ge.z = 1 ∧ IntsIn w g e cap l := by
  obtain ⟨vs, h1, h2, h3, h4, h5⟩ := h.rows
  have hvs : vs = l.map (Value.int .i64) := by
    refine List.ext_getElem? fun j => ?_
    have hlen : vs.length = l.length := by rw [h5.len, Nat.mul_one]
    by_cases hj : j < l.length
    · have hc : (f j)[0]? = some (.int .i64 (l.getD j default)) := by rw [hf j hj]; rfl
      have hu : vs[j]? = some (vs[j]'(by omega)) := List.getElem?_eq_getElem (by omega)
      have := h5.rep j 0 _ (vs[j]'(by omega)) hj hc (by rw [Nat.mul_one, Nat.add_zero]; exact hu)
      have hi : vs[j]'(by omega) = .int .i64 (l.getD j default) := by
        have h6 : Rep X γ w (.int .i64 (l.getD j default)) (vs[j]'(by omega)) := this
        exact h6.int_inv
      rw [hu, hi, List.getElem?_map, getD_some hj]; rfl
    · rw [List.getElem?_eq_none (by omega), List.getElem?_eq_none (by simp; omega)]
  subst hvs
  rcases h4.2 with ⟨_, h0⟩ | ⟨g, cap, cur, fz, hh, hg, hfz, hnc, hcm, hsz, htk⟩
  · omega
  · exact ⟨g, cap, hh, by rw [h2, hh]; rfl, h1, cur, fz, hg, hfz, hnc, hcm, hsz, htk⟩
theorem ints_row {w' : World} {γ' : Gh} {e g cap : Nat} {l : List Int} (h : IntsIn w' g e cap l) :
    RepS X γ' w' ⟨some g, .slice (some ⟨g, 0, none⟩) l.length cap, 1⟩ (.row 0 e 1 l.length (fl (fun n : Int => [PV.int .i64 n]) l)) := by
  obtain ⟨cur, fz, hg, hfz, hnc, hcm, hsz, htk⟩ := h
  refine ⟨l.map (Value.int .i64), rfl, rfl, rfl, ⟨by simp, .inr ⟨g, cap, cur, fz, rfl, hg, hfz, hnc, hcm, hsz, htk⟩⟩, fun u hu => ?_, fun i hi => rfl, fun i hi c hc => ?_, fun i j c u hi hc hu => ?_⟩
  · obtain ⟨n, _, rfl⟩ := List.mem_map.1 hu; rfl
  · have : c = .int .i64 (l.getD i default) := by simpa [fl] using hc
    subst this; rfl
  · have hj : j = 0 := by
      have := (List.getElem?_eq_some_iff.1 hc).1
      simp [fl] at this; omega
    subst hj
    have : c = .int .i64 (l.getD i default) := by
      have h0 : some (PV.int .i64 (l.getD i default)) = some c := hc
      injection h0 with h0; exact h0.symm
    subst this
    rw [Nat.mul_one, Nat.add_zero, List.getElem?_map, getD_some hi] at hu
    injection hu with hu; subst hu
    exact .int _ _
end
section
variable {P : Program} {wr : Bool} {np : Nat} {Q : Lv → PS → Prop}
theorem ents_put {X : Cx} {w0 w w' : World} {may : Nat → Prop} {a : Act} {s s' : PS} {γ γ' : Gh} {E : Eff} {v : Value} {d : Nat} (h : Rel X w0 may a w s γ) (hE : EffOK X γ w s.st E v w' γ' s'.st) (hn : s'.n = s.n) (hd : d < s.n)
    (hfr : s'.fr = upd (voidF E.kill s.fr) d E.val) : Rel X w0 may (a.put (some d) v) w' s' γ' := by
  refine h.after hE hn fun t p hp => ?_
  rw [hfr] at hp
  by_cases ht : t = d
  · subst ht
    rw [upd_same] at hp; injection hp with hp; subst hp
    exact .inl ⟨rfl, hd, hE.val⟩
  · rw [upd_ne _ _ ht] at hp
    simp only [voidF] at hp
    obtain ⟨q, hq, rfl⟩ := Option.map_eq_some_iff.1 hp
    exact .inr ⟨fun h => ht (by injection h with h; exact h.symm), q, hq, rfl⟩
def inplaceSt (n : Nat) (fr : Nat → Option PV) (st : Nat → Option SE) (log : Nat → Option LogE) (ta tb r e : Nat) (l' : List Int) (back : Bool) : PS :=
  match back with
  | false => ⟨n, upd (upd fr ta (.os r)) tb (.tup []), upd st r (.row 0 e 1 l'.length (fl (fun n : Int => [PV.int .i64 n]) l')), True, log⟩
  | true => ⟨n, upd (voidF [r] (upd fr ta (.os r))) tb (.os r), upd (voidS [r] st) r (.row 0 e 1 l'.length (fl (fun n : Int => [PV.int .i64 n]) l')), True, log⟩
theorem LSem.inplace {F : FuncId} {l l' : List Int} {back : Bool} (hF : InPlace P F l l' back) (hl : 0 < l.length) (hl' : back = false → l'.length = l.length)
    {n : Nat} {fr : Nat → Option PV} {st : Nat → Option SE} {log : Nat → Option LogE} {slot ta ia tb ib r τ e : Nat} {f : Nat → List PV} {rest : List Ins}
    (h1 : fr slot = some (.os r)) (h2 : st r = some (.row τ e 1 l.length f)) (h3 : RowEq l.length f (fl (fun n : Int => [PV.int .i64 n]) l)) (ha : Nat.blt ta n = true) (hb : Nat.blt tb n = true)
    (hK : evK (PureCall P) false 2 rest (inplaceSt n fr st log ta tb r e l' back) (fun s' => Q .nrm s')) :
    LSem P wr np (.reg (⟨some ta, ia, none, .mv (.t slot)⟩ :: ⟨some tb, ib, none, .call (.c (.fn (.func F) [] [])) [.t ta]⟩ :: rest)) Q ⟨n, fr, st, True, log⟩ := by
  intro hQ code hc X w0 may a w γ hX hR
  have hcode : ∃ id ops, code = .region id ops false ∧ mapO (compO P wr ops) ops.toList = some (⟨some ta, ia, none, .mv (.t slot)⟩ :: ⟨some tb, ib, none, .call (.c (.fn (.func F) [] [])) [.t ta]⟩ :: rest) := by
    cases code with
    | region id ops dr =>
      cases dr with
      | false =>
        simp only [comp, C.er] at hc
        split at hc
        · rename_i hm
          simp only [Option.some.injEq, C.reg.injEq] at hc
          subst hc
          exact ⟨id, ops, rfl, hm⟩
        · cases hc
      | true => simp only [comp, C.er] at hc; (repeat' (split at hc)) <;> cases hc
    | _ => simp only [comp, C.er] at hc <;> (repeat' (split at hc)) <;> simp_all
  obtain ⟨id, ops, rfl, hm⟩ := hcode
  obtain ⟨cr, s3, hev, hQ3⟩ := evK_evL hK
  have hok3 := hQ _ _ hQ3
  refine wp_region ?_
  have hlen : ops.size = 2 + rest.length := by have := mapO_length hm; simp at this; omega
  have hget : ∀ k o, ops[k]? = some o → ∃ x, (⟨some ta, ia, none, .mv (.t slot)⟩ :: ⟨some tb, ib, none, .call (.c (.fn (.func F) [] [])) [.t ta]⟩ :: rest : List Ins)[k]? = some x ∧ compO P wr ops o = some x := fun k o hk => comp_ins hm k o hk
  have o0 : ops[0]? = some (ops[0]'(by omega)) := Array.getElem?_eq_getElem (by omega)
  have o1 : ops[1]? = some (ops[1]'(by omega)) := Array.getElem?_eq_getElem (by omega)
  obtain ⟨x0, hx0, hc0⟩ := hget 0 _ o0
  obtain ⟨x1, hx1, hc1⟩ := hget 1 _ o1
  simp only [List.getElem?_cons_zero, Option.some.injEq] at hx0
  simp only [List.getElem?_cons_succ, List.getElem?_cons_zero, Option.some.injEq] at hx1
  subst hx0 hx1
  have hrange : List.range ops.size = 0 :: 1 :: (num 2 rest).map (·.1) := by
    rw [num_fst, hlen, List.range_eq_range', Nat.add_comm 2, List.range'_succ, List.range'_succ]
  rw [hrange, wpOps_cons]
  refine step_sound (lg := false) (c := default) (i := 0) (s' := ⟨n, upd fr ta (.os r), st, True, log⟩) o0 hR hc0 ?_ trivial fun a1 w1 γ1 hR1 => ?_
  · simp [stepI, guardV, I.opr, valL, A.val, h1, stripI, stripS, PV.isCnd, I.acc, getL, eff, eMv, PV.topV, Eff.pure, logO, logCs, okO, newSt, newFr, PV.norm, ha]
  rw [wpOps_cons]
  obtain ⟨hg1, hi1, hd1⟩ := compO_parts hc1
  unfold wpOp
  rw [o1]
  simp only
  rw [guard_none hg1 rfl, if_pos rfl]
  refine .inl ?_
  obtain ⟨hfn, hC⟩ := hF
  have hgr : ∃ ge, γ1 r = some ge := by
    have := hR1.st.dom r
    simp only [h2] at this
    exact Option.isSome_iff_exists.1 this
  obtain ⟨ge, hge⟩ := hgr
  obtain ⟨g, cap, hhdr, hblk, hz, hin⟩ := row_ints (hR1.st.at_ r ge _ hge h2) h3 hl
  have hnd : o1 = o1 := rfl
  refine call_wp (p := .os r) (R := fun u w' => u = (if back then .slice (some ⟨g, 0, none⟩) l'.length cap else .tuple #[]) ∧ Keeps (· = g) w1 w' ∧ IntsIn w' g e cap l') hR1 hi1 (by simp only [A.val]; exact upd_same _ _ _) hfn (fun v hv => ?_) (fun u w' hu => ?_)
  · obtain ⟨ge', hge', rfl⟩ := os_inv hv
    rw [hge] at hge'; injection hge' with hge'; subst hge'
    rw [hhdr]
    refine (hC w1 g cap e hin).mono ?_
    rintro ev w' ⟨he, hk, hi⟩
    exact ⟨_, he, rfl, hk, hi⟩
  · obtain ⟨rfl, hk, hi⟩ := hu
    have hdst : (ops[1]'(by omega)).dst = some tb := hd1.symm
    rw [hdst]
    have hRel : ∃ γ2, Rel X w0 may (a1.put (some tb) (if back then .slice (some ⟨g, 0, none⟩) l'.length cap else .tuple #[])) w' (inplaceSt n fr st log ta tb r e l' back) γ2 := by
      cases back with
      | false =>
        have hll := hl' rfl
        refine ⟨γ1, ents_put (E := ⟨.tup [], [], [], [], [], []⟩) hR1 ?_ rfl (by simpa [Nat.blt_eq] using hb) (by simp [inplaceSt, voidF_nil])⟩
        have h0 := EffOK.write (E := ⟨.junk, [], [], [], [], []⟩) (v := .tuple #[]) (e := .row 0 e 1 l'.length (fl (fun n : Int => [PV.int .i64 n]) l')) hR1.st hge hblk h2 rfl hk (fun _ => ?_) rfl (fun l hl => by cases hl)
        · exact ⟨.tup [] [] rfl (fun k c u hk => by simp at hk), h0.old, h0.sto, h0.keeps, h0.ownE, h0.box, h0.bld⟩
        · have := ints_row (X := X) (γ' := γ1) hi
          rw [hll] at this ⊢
          have hge2 : ge = ⟨some g, .slice (some ⟨g, 0, none⟩) l.length cap, 1⟩ := by cases ge; simp_all
          rw [hge2]; exact this
      | true =>
        refine ⟨upd γ1 r ⟨some g, .slice (some ⟨g, 0, none⟩) l'.length cap, 1⟩, ents_put (E := ⟨.os r, [], [], [], [r], []⟩) hR1 ?_ rfl (by simpa [Nat.blt_eq] using hb) (by simp [inplaceSt])⟩
        refine EffOK.app (ge' := ⟨some g, .slice (some ⟨g, 0, none⟩) l'.length cap, 1⟩) hR1.st hR1.hX hge h2 (fun l hl => by cases hl) rfl (hk.mono fun i _ h => by rw [hblk, h]) (fun b hb => .inl (by rw [hblk]; exact hb)) (fun b hb => ?_) (fun _ => ints_row hi) (.os r _ (upd_same _ _ _) rfl rfl)
        · injection hb with hb; subst hb
          obtain ⟨cur, _, hg, _⟩ := hi
          exact (Array.getElem?_eq_some_iff.1 hg).1
    obtain ⟨γ2, hR2⟩ := hRel
    exact reg_sound (l := num 2 rest) (fun p hp => by
      obtain ⟨hg0, hg⟩ := num_get rest 2 p hp
      have hlt := (List.getElem?_eq_some_iff.1 hg).1
      have ho : ops[p.1]? = some (ops[p.1]'(by omega)) := Array.getElem?_eq_getElem (by omega)
      obtain ⟨x, hx, hco⟩ := hget _ _ ho
      rw [show p.1 = (p.1 - 2) + 2 by omega] at hx
      simp only [List.getElem?_cons_succ] at hx
      rw [hx] at hg
      injection hg with hg; subst hg
      exact ⟨_, ho, hco⟩) hR2 hev hok3 (fun a' w' γ' hR' => ⟨_, _, _, rfl, hQ3, hR'⟩)
end
end Pv
end Go.Proofs.YtcfcmafmdpbjoaaDoor
