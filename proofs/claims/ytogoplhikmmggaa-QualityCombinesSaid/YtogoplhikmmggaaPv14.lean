/- ONE STEP: an instruction of a region, walked by its pure form. -/
import Derived.Test.YtogoplhikmmggaaPv13
set_option linter.unusedSimpArgs false
set_option linter.unusedVariables false
namespace Go.Proofs.Ytogoplhikmmggaa
namespace Pv
open Go.RowKit

theorem eraseDupsBy_nodup : ∀ (l acc : List Nat), acc.Nodup → (List.eraseDupsBy.loop (fun a b => a == b) l acc).Nodup
  | [], acc, h => by
    simp only [List.eraseDupsBy.loop]
    exact List.pairwise_reverse.2 (h.imp Ne.symm)
  | a :: l, acc, h => by
    unfold List.eraseDupsBy.loop
    split
    · exact eraseDupsBy_nodup l acc h
    · rename_i hn
      refine eraseDupsBy_nodup l (a :: acc) (List.nodup_cons.2 ⟨fun ha => ?_, h⟩)
      rw [List.any_eq_false] at hn
      exact hn a ha (by simp)
theorem eraseDups_nodup (l : List Nat) : l.eraseDups.Nodup := eraseDupsBy_nodup l [] List.nodup_nil

section
variable {P : Program} {X : Cx} {γ : Gh} {w w0 : World} {st st' : Nat → Option SE} {may : Nat → Prop} {a : Act} {s s' : PS}

theorem Rel.heapLe (h : Rel X w0 may a w s γ) : X.lo ≤ w.heap.size := by rw [h.lo]; exact h.keeps.size
theorem Rel.hX (h : Rel X w0 may a w s γ) : ∀ b, X.as b ∨ X.ls b → b < w.heap.size := fun b hb => Nat.lt_of_lt_of_le (h.asLt b hb).1 h.heapLe
theorem Rel.rowLo (h : Rel X w0 may a w s γ) : ∀ r ge b τ e z n f, γ r = some ge → s.st r = some (.row τ e z n f) → ge.blk = some b → X.lo ≤ b := by
  intro r ge b τ e z n f hr hs hb
  rcases h.own b ⟨r, ge, hr, hb⟩ with h1 | h1
  · exact h1
  · obtain ⟨r', ge', hr', hg', hb'⟩ := h.mayP b h1
    obtain ⟨h2, l, h3⟩ := h.par r' hr'
    rw [hg'] at h2
    have := h.st.inj r r' ge ge' b hr h2 hb hb'
    subst this
    rw [hs] at h3; cases h3

theorem eval_opd (h : Rel X w0 may a w s γ) : Opd X γ w s.fr a.eval := by
  refine ⟨fun t p hp => ?_, fun v => rfl, fun f => rfl⟩
  obtain ⟨h1, h2⟩ := h.fr t p hp
  have : a.eval (.tmp t) = a.tmps.getD t undef := by
    simp [Act.eval, Array.getD_eq_getD_getElem?]
  rw [this]; exact h2

/-- The state behind an instruction. -/
theorem Rel.after (h : Rel X w0 may a w s γ) {E : Eff} {v : Value} {w' : World} {γ' : Gh} (hE : EffOK X γ w s.st E v w' γ' s'.st) {dst : Option Tmp} (hn : s'.n = s.n)
    (hfr : ∀ t p, s'.fr t = some p → (dst = some t ∧ t < s.n ∧ Rep X γ' w' p v) ∨ (dst ≠ some t ∧ ∃ q, s.fr t = some q ∧ p = q.void E.kill)) : Rel X w0 may (a.put dst v) w' s' γ' := by
  have hsz : (a.put dst v).tmps.size = a.tmps.size := by cases dst <;> simp [Act.put]
  refine ⟨by rw [hsz, hn]; exact h.size, by cases dst <;> exact h.defers, fun t p hp => ?_, hE.sto, ?_, h.lo, fun b hb => ?_, h.asLt, fun r hr => ?_, h.mayP⟩
  · rcases hfr t p hp with ⟨rfl, ht, hr⟩ | ⟨hne, q, hq, rfl⟩
    · refine ⟨by rw [hn]; exact ht, ?_⟩
      have : (a.put (some t) v).tmps.getD t undef = v := by
        have ht' : t < a.tmps.size := by rw [h.size]; exact ht
        simp [Act.put, Array.getD_eq_getD_getElem?, ht']
      rw [this]; exact hr
    · obtain ⟨h1, h2⟩ := h.fr t q hq
      refine ⟨by rw [hn]; exact h1, ?_⟩
      have : (a.put dst v).tmps.getD t undef = a.tmps.getD t undef := by
        cases dst with
        | none => rfl
        | some d =>
          have : d ≠ t := fun e => hne (by rw [e])
          simp [Act.put, Array.getD_eq_getD_getElem?, Array.getElem?_setIfInBounds_ne this]
      rw [this]; exact hE.old q _ h2
  · refine ⟨hE.keeps.os.trans h.keeps.os, hE.keeps.tape.trans h.keeps.tape, hE.keeps.output.trans h.keeps.output, Nat.le_trans h.keeps.size hE.keeps.size, fun b hb hm => ?_⟩
    rw [hE.keeps.block b (Nat.lt_of_lt_of_le hb h.keeps.size) (fun ho => ?_)]
    · exact h.keeps.block b hb hm
    · rcases h.own b ho with h1 | h1
      · have := h.lo; omega
      · exact hm h1
  · rcases hE.own b hb with h1 | h1
    · exact h.own b h1
    · exact .inl (Nat.le_trans h.heapLe h1)
  · obtain ⟨h1, l, h2⟩ := h.par r hr
    obtain ⟨h3, l', h4⟩ := hE.box r l h2
    exact ⟨by rw [h3, h1], l', h4⟩

theorem okO_iff : ∀ (l : List Prop) (ok ok' : Prop), okO ok l = some ok' → (ok' ↔ ok ∧ allP l)
  | [], ok, ok', h => by simp only [okO, Option.some.injEq] at h; subst h; simp [allP]
  | p :: ps, ok, ok', h => by
    simp only [okO] at h
    rw [okO_iff ps _ ok' h]; simp only [allP, and_assoc]
theorem okG_iff (G : Bool) : ∀ (l : List Prop) (ok ok' : Prop), okG G ok l = some ok' → (ok' ↔ ok ∧ (G = true → allP l))
  | [], ok, ok', h => by simp only [okG, Option.some.injEq] at h; subst h; simp [allP]
  | p :: ps, ok, ok', h => by
    simp only [okG] at h
    rw [okG_iff G ps _ ok' h]; simp only [allP]
    constructor
    · rintro ⟨⟨h1, h2⟩, h3⟩; exact ⟨h1, fun hg => ⟨h2 hg, h3 hg⟩⟩
    · rintro ⟨h1, h2⟩; exact ⟨⟨h1, fun hg => (h2 hg).1⟩, fun hg => (h2 hg).2⟩
theorem allP_append : ∀ (l l' : List Prop), allP (l ++ l') ↔ allP l ∧ allP l'
  | [], l' => by simp [allP]
  | p :: ps, l' => by simp only [List.cons_append, allP, allP_append ps l', and_assoc]

/-- What a step is, taken apart. -/
structure StepP (S : FuncId → List PV → List SE → CallRes → Prop) (lg : Bool) (c : CallRes) (i : Nat) (x : Ins) (s s' : PS) (G : Bool) (vs : List PV) (cs : List SE) (E : Eff) : Prop where
  guard : guardV s.fr x.g = some G
  vals : ∃ vs0, valL s.fr x.i.opr = some vs0 ∧ stripI x.i G vs0 = ((stripI x.i G vs0).1, vs) ∧ (s'.ok ↔ s.ok ∧ (x.g ≠ none → G = true → allP ((stripI x.i G vs0).1 ++ E.side)) ∧ (x.g = none → allP ((stripI x.i G vs0).1 ++ E.side)))
  ent : getL s.st (x.i.acc vs) = some cs
  eff : eff S c x.id x.i vs (x.i.acc vs) cs = some E
  log : logO lg s.log i (x.i.acc vs) vs cs E.val E.wr E.nw E.kill E.rm = some s'.log
  n : s'.n = s.n
  st : newSt x.id E.kill E.rm E.wr E.nw s.st = some s'.st
  dlt : ∀ d, x.d = some d → d < s.n
  fr : s'.fr = match x.d with
    | none => voidF E.kill s.fr
    | some d => upd (voidF E.kill s.fr) d (if x.g = none then E.val else .cnd G E.val)
  gd : x.g ≠ none → E.wr = [] ∧ E.nw = [] ∧ E.kill = [] ∧ E.rm = [] ∧ x.d ≠ none

theorem stepI_parts {S : FuncId → List PV → List SE → CallRes → Prop} {lg : Bool} {c : CallRes} {i : Nat} {x : Ins} (h : stepI S lg c i x s = some s') :
    ∃ G vs cs E, StepP S lg c i x s s' G vs cs E := by
  obtain ⟨n, fr, st, ok, log⟩ := s
  obtain ⟨od, oid, og, oi⟩ := x
  unfold stepI at h
  simp only at h
  split at h
  · cases h
  · rename_i G hG
    split at h
    · cases h
    · rename_i vs0 hvs
      split at h
      · cases h
      · rename_i cs hcs
        split at h
        · cases h
        · rename_i val side wr nw kill rm hE
          split at h
          · cases h
          · rename_i log' hlog
            split at h
            · split at h
              · rename_i ok' st' fr' v hok hst hfr hv
                rw [newFr_eq] at hfr; injection hfr with hfr; subst hfr
                rw [norm_some] at hv; injection hv with hv; subst hv
                split at h
                · injection h with h; subst h
                  exact ⟨G, _, cs, _, hG, ⟨vs0, hvs, rfl, by simpa using okO_iff _ _ _ hok⟩, hcs, hE, hlog, rfl, hst, (fun d hd => by cases hd), rfl, fun hg => absurd rfl hg⟩
                · rename_i d
                  split at h
                  · rename_i hlt
                    injection h with h; subst h
                    exact ⟨G, _, cs, _, hG, ⟨vs0, hvs, rfl, by simpa using okO_iff _ _ _ hok⟩, hcs, hE, hlog, rfl, hst, (fun d' hd => by injection hd with hd; subst hd; simpa [Nat.blt_eq] using hlt), by simp, fun hg => absurd rfl hg⟩
                  · cases h
              · cases h
            · rename_i g
              split at h
              · rename_i d v ok' hv hok
                rw [norm_some] at hv; injection hv with hv; subst hv
                split at h
                · rename_i hlt
                  injection h with h; subst h
                  exact ⟨G, _, cs, _, hG, ⟨vs0, hvs, rfl, by simpa using okG_iff _ _ _ _ hok⟩, hcs, hE, hlog, rfl, by simp [newSt], (fun d' hd => by injection hd with hd; subst hd; simpa [Nat.blt_eq] using hlt), by simp [voidF_nil], fun _ => ⟨rfl, rfl, rfl, rfl, by simp⟩⟩
                · cases h
              · cases h

theorem idsL_acc {f : A} {xs : List A} {vs : List PV} : ((I.call f xs).acc vs).Nodup := eraseDups_nodup _

theorem pick_op {ρ : Operand → Value} {fr : Nat → Option PV} {wr : Bool} {o : Oper} {i : I} {vs0 : List PV} {cs : List SE} {E : Eff} {d : Nat} {S : FuncId → List PV → List SE → CallRes → Prop} {c : CallRes} (hc : compI P wr o = some i) (hpk : ∃ x y z, i = .pick x y z)
    (H : Opd X γ w fr ρ) (hst : RepSt X γ w st) (hv : valL fr i.opr = some vs0) (hsd : allP (stripI i true vs0).1) (hcs : getL st (i.acc (stripI i true vs0).2) = some cs)
    (hE : eff S c d i (stripI i true vs0).2 (i.acc (stripI i true vs0).2) cs = some E) (hs : allP E.side) (hnew : newSt d E.kill E.rm E.wr E.nw st = some st') : Snd P X γ w st E st' (execOp ρ o) := by
  obtain ⟨x, y, z, rfl⟩ := hpk
  have hop : ∃ c0 a0 b0, o.op = .pick c0 a0 b0 ∧ arg c0 = some x ∧ arg a0 = some y ∧ arg b0 = some z := by
    revert hc
    unfold compI
    intro hc
    repeat' (split at hc)
    all_goals first
      | (cases hc; done)
      | (obtain ⟨y, hy, hc⟩ := Option.map_eq_some_iff.1 hc; cases hc; done)
      | (injection hc with hc; injection hc with e1 e2 e3; subst e1; subst e2; subst e3
         rename_i _ c0 a0 b0 hop _ _ _ _ _ _ h1 h2 h3
         exact ⟨c0, a0, b0, hop, h1, h2, h3⟩)
      | skip
  obtain ⟨c0, a0, b0, hop, h1, h2, h3⟩ := hop
  have hR0 := op3 H h1 h2 h3 hv
  have hR : RepL X γ w (stripI (.pick x y z) true vs0).2 [ρ c0, ρ a0, ρ b0] := by
    unfold stripI at hsd ⊢
    simp only at hsd ⊢
    split at hsd
    · obtain ⟨u, us, hu, hr1, hr2⟩ := hR0.cons_inv
      rw [hu]
      exact RepL.cons_ (hr1.cnd_inv (by simpa [allP] using hsd)) hr2
    · exact hR0
  generalize (stripI (.pick x y z) true vs0).2 = vs at *
  simp only [eff] at hE
  unfold execOp; rw [hop]
  unfold ePick at hE
  split at hE
  · rename_i b p q
    have hb := hR.2 0 _ _ rfl rfl
    have hp := hR.2 1 _ _ rfl rfl
    have hq := hR.2 2 _ _ rfl rfl
    have hbv := hb.bool_inv
    obtain ⟨h4, h5⟩ := pick_sound hp hq hE hs
    have hm : ((do pure (Next.value (if ← asBool (ρ c0) then ρ a0 else ρ b0))) : Sem Next) = pure (.value (if b then ρ a0 else ρ b0)) := by
      rw [hbv]; cases b <;> rfl
    show Snd P X γ w st E st' ((do pure (Next.value (if ← asBool (ρ c0) then ρ a0 else ρ b0))) : Sem Next)
    rw [hm]
    exact Snd.val hst h4 h5 hnew
  · cases hE

/-- An operation that is carried out. -/
theorem op_wp {wr : Bool} {o : Oper} {i : I} {vs0 : List PV} {cs : List SE} {E : Eff} {d : Nat} {c : CallRes} {st' : Nat → Option SE} {Q : Exit → Act → World → Prop}
    (hR : Rel X w0 may a w s γ) (hc : compI P wr o = some i) (hv : valL s.fr i.opr = some vs0) (hsd : allP (stripI i true vs0).1) (hcs : getL s.st (i.acc (stripI i true vs0).2) = some cs)
    (hE : eff (PureCall P) c d i (stripI i true vs0).2 (i.acc (stripI i true vs0).2) cs = some E) (hs : allP E.side) (hnew : newSt d E.kill E.rm E.wr E.nw s.st = some st') :
    o.wp P a w (fun a' w' => ∃ v γ', a' = a.put o.dst v ∧ EffOK X γ w s.st E v w' γ' st') Q := by
  have H := eval_opd hR
  by_cases hpk : ∃ x y z, i = .pick x y z
  · obtain ⟨nx, v, w', γ', hrun, hnx, hok⟩ := pick_op hc hpk H hR.st hv hsd hcs hE hs hnew
    unfold Oper.wp
    rw [hrun]
    rcases hnx with rfl | ⟨rfl, rfl⟩
    · exact ⟨v, γ', rfl, hok⟩
    · exact ⟨_, γ', rfl, hok⟩
  have hsi : stripI i true vs0 = stripS true vs0 := by
    unfold stripI
    split
    · exact absurd ⟨_, _, _, rfl⟩ hpk
    · rfl
  rw [hsi] at hsd hcs hE
  cases hnc : i.isCall with
  | false =>
    obtain ⟨nx, v, w', γ', hrun, hnx, hok⟩ := op_sound hc hnc H hR.st hR.hX hR.rowLo hv hsd hcs hE hs hnew
    unfold Oper.wp
    rw [hrun]
    rcases hnx with rfl | ⟨rfl, rfl⟩
    · exact ⟨v, γ', rfl, hok⟩
    · exact ⟨_, γ', rfl, hok⟩
  | true =>
    have hcall : ∃ cl f y ys, o.op = .call cl ∧ cl.callee = .value f ∧ arg f = some y ∧ mapO (fun (q : Operand × TypeId) => argT P q.2 q.1) (cl.args.toList.zip cl.argTypes.toList) = some ys ∧ cl.args.size = cl.argTypes.size ∧ i = .call y ys := by
      revert hc
      unfold compI
      intro hc
      repeat' (split at hc)
      all_goals first
        | (cases hc; done)
        | (injection hc with hc; subst hc; simp [I.isCall] at hnc; done)
        | (obtain ⟨y, hy, rfl⟩ := Option.map_eq_some_iff.1 hc; simp [I.isCall] at hnc; done)
        | (injection hc with hc; subst hc
           rename_i _ cl hop _ f hcal _ _ y ys hy hys hsz
           exact ⟨_, _, _, _, hop, hcal, hy, hys, by simpa using hsz, rfl⟩)
    obtain ⟨cl, f, y, ys, hop, hcal, hy, hys, hsz, rfl⟩ := hcall
    have hz : (cl.args.toList.zip cl.argTypes.toList).map (fun q => a.eval q.1) = (cl.args.map a.eval).toList := by
      have hl : cl.args.toList.length = cl.argTypes.toList.length := by simpa using hsz
      have h1 : (cl.args.toList.zip cl.argTypes.toList).map (fun q => q.1) = cl.args.toList := List.map_fst_zip (by omega)
      rw [show (fun q : Operand × TypeId => a.eval q.1) = a.eval ∘ (fun q => q.1) from rfl, ← List.map_map, h1]
      simp
    have hR0 : RepL X γ w vs0 (a.eval f :: (cl.args.map a.eval).toList) := by
      simp only [I.opr, valL] at hv
      split at hv
      · rename_i p ps hp hps
        injection hv with hv; subst hv
        refine RepL.cons_ (arg_rep H hy hp) ?_
        have := argsT_rep (P := P) (α := Operand × TypeId) H (fun q => q.2) (fun q => q.1) (xs := cl.args.toList.zip cl.argTypes.toList) (ys := ys) (ps := ps) hys hps
        rwa [hz] at this
      · cases hv
    have hRs := stripS_sound hR0 hsd
    generalize (stripS true vs0).2 = vs at *
    cases vs with
    | nil => simp [eff, eCall] at hE
    | cons f0 args0 =>
      obtain ⟨fv, avs, hfv, hr1, hr2⟩ := hRs.cons_inv
      injection hfv with hfv1 hfv2
      simp only [eff, eCall] at hE
      obtain ⟨id, first, caps, hfe, ⟨fn, hfn, hbody, hname⟩, hC⟩ := call_sound hR.st hR.hX hR.heapLe hr1 hr2 idsL_acc hcs hE hs hnew
      have hrun : (execOp a.eval o).run P w = .ok (.enter id ((first ++ avs.toArray) ++ caps)) w := by
        unfold execOp
        rw [hop]
        have hb : fn.body ≠ none := by intro h; rw [h] at hbody; cases hbody
        have hnm : fn.name ≠ "runtime.NumGoroutine" := by simpa using hname
        have hav : cl.args.map a.eval = avs.toArray := by rw [← hfv2]
        simp [resolve, hcal, hfv1, hfe, Deferred.ofValue, invoke, callFunc, hfn, hb, hnm, hav]
      unfold Oper.wp
      rw [hrun]
      simp only [Oper.upon]
      refine hC.mono ?_
      rintro e w' ⟨v, γ', rfl, hok⟩
      exact ⟨v, γ', rfl, hok⟩
end
end Pv
end Go.Proofs.Ytogoplhikmmggaa
