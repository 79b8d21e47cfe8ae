/- RULES: taking stock; loops; places where branches meet; a function's body. -/
import Derived.Test.YtogoplhikmmggaaPv20
set_option linter.unusedSimpArgs false
set_option linter.unusedVariables false
namespace Go.Proofs.Ytogoplhikmmggaa
namespace Pv
open Go.RowKit

def SE.ids : SE → List Nat
  | .box l => PV.idsL l
  | .row .. => []

section
variable {P : Program} {X : Cx} {γ : Gh} {w w0 : World} {may : Nat → Prop} {a : Act} {s s' : PS}

/-- The entries behind a change of names. -/
def reG (γ : Gh) (st' : Nat → Option SE) (ρ : Nat → Nat) : Gh := fun r => if (st' r).isSome then γ (ρ r) else none

theorem RepSt.ent {st st' : Nat → Option SE} {ρ : Nat → Nat} {kp : Nat → Bool} (h : RepSt X γ w st) (hlo : ∀ r ge b τ e z n f, γ r = some ge → st r = some (.row τ e z n f) → ge.blk = some b → X.lo ≤ b)
    (hst : ∀ r e', st' r = some e' → ∃ e, st (ρ r) = some e ∧ SLe st kp e (e'.ren ρ) ∧ kp (ρ r) = true ∧ ∀ q ∈ e'.ids, ∃ e2, st' q = some e2)
    (hinj : ∀ r r' e e', st' r = some e → st' r' = some e' → ρ r = ρ r' → r = r') :
    RepSt X (reG γ st' ρ) w st' ∧ (∀ b, (reG γ st' ρ).own b → γ.own b) ∧
      ∀ p q v, Rep X γ w p v → PLe st kp p (PV.ren ρ q) → (∀ r ∈ q.ids, ∃ e, st' r = some e) → Rep X (reG γ st' ρ) w q v := by
  let γk : Gh := fun r => if kp r then γ r else none
  have hk1 : ∀ r ge, γ r = some ge → kp r = true → γk r = some ge := fun r ge hr hk => by simp only [γk, hk, if_true]; exact hr
  have hk2 : ∀ r ge, γk r = some ge → γ r = some ge ∧ kp r = true := fun r ge hr => by
    simp only [γk] at hr
    split at hr
    · rename_i hk; exact ⟨hr, hk⟩
    · cases hr
  have hinv : ∀ r ge, reG γ st' ρ r = some ge → ∃ e', st' r = some e' ∧ γ (ρ r) = some ge ∧ kp (ρ r) = true := fun r ge hr => by
    unfold reG at hr
    split at hr
    · rename_i hs
      obtain ⟨e', he'⟩ := Option.isSome_iff_exists.1 hs
      obtain ⟨_, _, _, hk, _⟩ := hst r e' he'
      exact ⟨e', he', hr, hk⟩
    · cases hr
  have ho : ∀ b, (reG γ st' ρ).own b → γk.own b := fun b ⟨r, ge, hr, hb⟩ => by
    obtain ⟨e', _, h2, h3⟩ := hinv r ge hr
    exact ⟨ρ r, ge, hk1 _ _ h2 h3, hb⟩
  have hok : ∀ b, γk.own b → γ.own b := fun b ⟨r, ge, hr, hb⟩ => ⟨r, ge, (hk2 _ _ hr).1, hb⟩
  have hid : ∀ r e', st' r = some e' → ∀ ge, γk (ρ r) = some ge → reG γ st' ρ r = some ge := fun r e' he ge hg => by
    unfold reG; rw [he]; simp only [Option.isSome_some, if_true]; exact (hk2 _ _ hg).1
  have hrep : ∀ p q v, Rep X γ w p v → PLe st kp p (PV.ren ρ q) → (∀ r ∈ q.ids, ∃ e, st' r = some e) → Rep X (reG γ st' ρ) w q v := fun p q v hp hle hi =>
    Rep.unren ho q v (hp.le h hlo hk1 hk2 _ hle) fun r hr ge hg => by obtain ⟨e, he⟩ := hi r hr; exact hid r e he ge hg
  refine ⟨⟨fun r => ?_, fun r ge e' hg he => ?_, fun r r' ge ge' b hg hg' hb hb' => ?_, fun b hb => h.asOff b (hok b (ho b hb)), fun b hb => h.lt b (hok b (ho b hb))⟩, fun b hb => hok b (ho b hb), hrep⟩
  · cases hs : st' r with
    | none => unfold reG; rw [hs]; rfl
    | some e' =>
      obtain ⟨e, he, _⟩ := hst r e' hs
      unfold reG; rw [hs]
      simp only [Option.isSome_some, if_true]
      rw [h.dom, he]; rfl
  · obtain ⟨e1, he1, hg1, hk⟩ := hinv r ge hg
    obtain ⟨e, hes, hle, _, hi⟩ := hst r e' he
    have hold := h.at_ _ ge e hg1 hes
    cases e with
    | box l =>
      cases e' with
      | row _ _ _ _ _ => simp [SLe, SE.ren] at hle
      | box l' =>
        simp only [SLe, SE.ren] at hle
        obtain ⟨b, T, vs, h1, h2, h3, h4⟩ := hold
        refine ⟨b, T, vs, h1, h2, h3, RepL.unren ho l' _ (h4.le h hlo hk1 hk2 hle) fun q hq ge hg => ?_⟩
        obtain ⟨e2, he2⟩ := hi q hq
        exact hid q e2 he2 ge hg
    | row τ e z n f =>
      cases e' with
      | box _ => simp [SLe, SE.ren] at hle
      | row τ' e' z' n' f' =>
        simp only [SLe, SE.ren] at hle
        obtain ⟨ht, rfl, rfl, rfl, hrw⟩ := hle
        obtain ⟨vs, h1, h2, h2', h3, h4, h5, h6, h7⟩ := hold
        refine ⟨vs, h1, h2, h2', h3, h4, fun i hi => by rw [← hrw i hi]; exact h5 i hi, fun i hi c hc => h6 i hi c (by rw [hrw i hi]; exact hc), fun i j c u hi hc hu => ?_⟩
        rw [← hrw i hi] at hc
        have hfl := h6 i hi c (List.mem_of_getElem? hc)
        have h8 := (h7 i j c u hi hc hu).mark_up τ' (Nat.le_trans (tau_mark c _) ht)
        rw [mark_mark] at h8
        exact h8.own_less (fun b hb => hok b (ho b hb)) (flat_mark hfl _)
  · obtain ⟨e1, he1, hg1, hk⟩ := hinv r ge hg
    obtain ⟨e2, he2, hg2, hk'⟩ := hinv r' ge' hg'
    exact hinj r r' e1 e2 he1 he2 (h.inj _ _ ge ge' b hg1 hg2 hb hb')

theorem Rel.ent {ρ : Nat → Nat} {kp : Nat → Bool} (h : Rel X w0 may a w s γ) (hn : s'.n = s.n)
    (hfr : ∀ t p', s'.fr t = some p' → (∃ p, s.fr t = some p ∧ PLe s.st kp p (p'.ren ρ)) ∧ ∀ r ∈ p'.ids, ∃ e, s'.st r = some e)
    (hst : ∀ r e', s'.st r = some e' → ∃ e, s.st (ρ r) = some e ∧ SLe s.st kp e (e'.ren ρ) ∧ kp (ρ r) = true ∧ ∀ q ∈ e'.ids, ∃ e2, s'.st q = some e2)
    (hinj : ∀ r r' e e', s'.st r = some e → s'.st r' = some e' → ρ r = ρ r' → r = r') (hpar : ∀ r, r < X.np → ρ r = r ∧ ∃ e, s'.st r = some e) : ∃ γ', Rel X w0 may a w s' γ' := by
  obtain ⟨h1, h2, h3⟩ := h.st.ent h.rowLo hst hinj
  refine ⟨_, by rw [hn]; exact h.size, h.defers, fun t p' hp => ?_, h1, h.keeps, h.lo, fun b hb => h.own b (h2 b hb), h.asLt, fun r hr => ?_, h.mayP⟩
  · obtain ⟨⟨p, hp1, hle⟩, hi⟩ := hfr t p' hp
    obtain ⟨g1, g2⟩ := h.fr t p hp1
    exact ⟨by rw [hn]; exact g1, h3 _ _ _ g2 hle hi⟩
  · obtain ⟨g1, g2⟩ := hpar r hr
    obtain ⟨e', he'⟩ := g2
    obtain ⟨e, hes, hle, _⟩ := hst r e' he'
    obtain ⟨k1, l, k2⟩ := h.par r hr
    rw [g1, k2] at hes; injection hes with hes; subst hes
    refine ⟨?_, ?_⟩
    · unfold reG; rw [he', g1]; simp only [Option.isSome_some, if_true]; exact k1
    · cases e' with
      | box l' => exact ⟨l', he'⟩
      | row _ _ _ _ _ => simp [SLe, SE.ren] at hle

mutual
theorem ren_id : ∀ (p : PV), p.ren (fun r => r) = p
  | .agg cs => by simp [PV.ren, ren_idL cs]
  | .tup cs => by simp [PV.ren, ren_idL cs]
  | .fn f a b => by simp [PV.ren, ren_idL a, ren_idL b]
  | .cnd g p => by simp [PV.ren, ren_id p]
  | .rp τ cs => rfl
  | .int k n => rfl
  | .bool b => rfl
  | .str s => rfl
  | .sl o z n f => rfl
  | .nil z => rfl
  | .os r => rfl
  | .vw h r lo n => rfl
  | .pt r i j => rfl
  | .raw v => rfl
  | .junk => rfl
theorem ren_idL : ∀ (l : List PV), PV.renL (fun r => r) l = l
  | [] => rfl
  | p :: ps => by simp [PV.renL, ren_id p, ren_idL ps]
end
theorem sren_id (e : SE) : e.ren (fun r => r) = e := by cases e <;> simp [SE.ren, ren_idL]

/-! ### states written out -/
def frL : List (Nat × PV) → Nat → Option PV
  | [] => fun _ => none
  | (t, p) :: l => upd (frL l) t p
def stL : List (Nat × SE) → Nat → Option SE
  | [] => fun _ => none
  | (t, p) :: l => upd (stL l) t p
def St (n : Nat) (fl : List (Nat × PV)) (sl : List (Nat × SE)) : PS := ⟨n, frL fl, stL sl, True, fun _ => none⟩

def keysB : List (Nat × SE) → Nat → Bool
  | [], _ => false
  | (k, _) :: l, r => match Nat.beq r k with
    | true => true
    | false => keysB l r
def keysAll (sl : List (Nat × SE)) : List Nat → Bool
  | [] => true
  | r :: rs => match keysB sl r with
    | true => keysAll sl rs
    | false => false
def idsF (sl : List (Nat × SE)) : List (Nat × PV) → Bool
  | [] => true
  | (_, p) :: l => match keysAll sl p.ids with
    | true => idsF sl l
    | false => false
def idsS (sl : List (Nat × SE)) : List (Nat × SE) → Bool
  | [] => true
  | (_, e) :: l => match keysAll sl e.ids with
    | true => idsS sl l
    | false => false
def parB (sl : List (Nat × SE)) : Nat → Bool
  | 0 => true
  | n + 1 => match keysB sl n with
    | true => parB sl n
    | false => false

def leF (fr : Nat → Option PV) (st : Nat → Option SE) (kp : Nat → Bool) : List (Nat × PV) → Prop
  | [] => True
  | (t, p') :: l => (match fr t with
    | some p => PLe st kp p p'
    | none => False) ∧ leF fr st kp l
def leS (st : Nat → Option SE) (kp : Nat → Bool) : List (Nat × SE) → Prop
  | [] => True
  | (r, e') :: l => (match st r with
    | some e => SLe st kp e e'
    | none => False) ∧ leS st kp l

/-- The state says what the lists say. -/
def Ent (np : Nat) (s : PS) (n : Nat) (fl : List (Nat × PV)) (sl : List (Nat × SE)) : Prop := match s with
  | ⟨n', fr, st, _, _⟩ => n' = n ∧ (idsF sl fl && idsS sl sl && parB sl np) = true ∧ leF fr st (keysB sl) fl ∧ leS st (keysB sl) sl

theorem keysB_some : ∀ {sl : List (Nat × SE)} {r : Nat}, keysB sl r = true ↔ ∃ e, stL sl r = some e
  | [], r => by simp [keysB, stL]
  | (k, e) :: l, r => by
    simp only [keysB, stL, upd_eq]
    by_cases h : r = k
    · subst h; simp
    · have : Nat.beq r k = false := by rw [Bool.eq_false_iff]; intro hh; exact h (Nat.eq_of_beq_eq_true hh)
      rw [this]; simp only [if_neg h]; exact keysB_some
theorem keysAll_mem {sl : List (Nat × SE)} : ∀ {l : List Nat}, keysAll sl l = true → ∀ r ∈ l, ∃ e, stL sl r = some e
  | [], h, r, hr => by simp at hr
  | x :: l, h, r, hr => by
    simp only [keysAll] at h
    split at h
    · rename_i hx
      rcases List.mem_cons.1 hr with rfl | hr
      · exact keysB_some.1 hx
      · exact keysAll_mem h r hr
    · cases h
theorem frL_mem : ∀ {fl : List (Nat × PV)} {t : Nat} {p : PV}, frL fl t = some p → (t, p) ∈ fl
  | [], t, p, h => by simp [frL] at h
  | (k, q) :: l, t, p, h => by
    simp only [frL, upd_eq] at h
    split at h
    · rename_i hk; subst hk; injection h with h; subst h; simp
    · exact List.mem_cons_of_mem _ (frL_mem h)
theorem stL_mem : ∀ {fl : List (Nat × SE)} {t : Nat} {p : SE}, stL fl t = some p → (t, p) ∈ fl
  | [], t, p, h => by simp [stL] at h
  | (k, q) :: l, t, p, h => by
    simp only [stL, upd_eq] at h
    split at h
    · rename_i hk; subst hk; injection h with h; subst h; simp
    · exact List.mem_cons_of_mem _ (stL_mem h)
theorem idsF_mem {sl : List (Nat × SE)} : ∀ {l : List (Nat × PV)}, idsF sl l = true → ∀ x ∈ l, ∀ r ∈ x.2.ids, ∃ e, stL sl r = some e
  | [], h, x, hx => by simp at hx
  | (k, p) :: l, h, x, hx => by
    simp only [idsF] at h
    split at h
    · rename_i hk
      rcases List.mem_cons.1 hx with rfl | hx
      · exact keysAll_mem hk
      · exact idsF_mem h x hx
    · cases h
theorem idsS_mem {sl : List (Nat × SE)} : ∀ {l : List (Nat × SE)}, idsS sl l = true → ∀ x ∈ l, ∀ r ∈ x.2.ids, ∃ e, stL sl r = some e
  | [], h, x, hx => by simp at hx
  | (k, p) :: l, h, x, hx => by
    simp only [idsS] at h
    split at h
    · rename_i hk
      rcases List.mem_cons.1 hx with rfl | hx
      · exact keysAll_mem hk
      · exact idsS_mem h x hx
    · cases h
theorem parB_lt {sl : List (Nat × SE)} : ∀ {n : Nat}, parB sl n = true → ∀ r, r < n → ∃ e, stL sl r = some e
  | 0, h, r, hr => by omega
  | n + 1, h, r, hr => by
    simp only [parB] at h
    split at h
    · rename_i hk
      by_cases hrn : r = n
      · subst hrn; exact keysB_some.1 hk
      · exact parB_lt h r (by omega)
    · cases h
theorem leF_mem {fr : Nat → Option PV} {st : Nat → Option SE} {kp : Nat → Bool} : ∀ {l : List (Nat × PV)}, leF fr st kp l → ∀ x ∈ l, ∃ p, fr x.1 = some p ∧ PLe st kp p x.2
  | [], h, x, hx => by simp at hx
  | (t, p') :: l, h, x, hx => by
    obtain ⟨h1, h2⟩ := h
    rcases List.mem_cons.1 hx with rfl | hx
    · split at h1
      · rename_i p hp; exact ⟨p, hp, h1⟩
      · exact h1.elim
    · exact leF_mem h2 x hx
theorem leS_mem {st : Nat → Option SE} {kp : Nat → Bool} : ∀ {l : List (Nat × SE)}, leS st kp l → ∀ x ∈ l, ∃ p, st x.1 = some p ∧ SLe st kp p x.2
  | [], h, x, hx => by simp at hx
  | (t, p') :: l, h, x, hx => by
    obtain ⟨h1, h2⟩ := h
    rcases List.mem_cons.1 hx with rfl | hx
    · split at h1
      · rename_i p hp; exact ⟨p, hp, h1⟩
      · exact h1.elim
    · exact leS_mem h2 x hx

theorem Ent.rel {n : Nat} {fl : List (Nat × PV)} {sl : List (Nat × SE)} {np : Nat} (he : Ent np s n fl sl) (hnp : X.np = np) (h : Rel X w0 may a w s γ) : ∃ γ', Rel X w0 may a w (St n fl sl) γ' := by
  obtain ⟨n', fr, st, ok, log⟩ := s
  obtain ⟨rfl, hb, hf, hs⟩ := he
  simp only [Bool.and_eq_true] at hb
  obtain ⟨⟨hb1, hb2⟩, hb3⟩ := hb
  refine Rel.ent (s' := St n' fl sl) (ρ := fun r => r) (kp := keysB sl) h rfl (fun t p' hp => ?_) (fun r e' hr => ?_) (fun r r' e e' _ _ hh => hh) (fun r hr => ⟨rfl, parB_lt hb3 r (by omega)⟩)
  · have hm := frL_mem hp
    obtain ⟨p, hp1, hle⟩ := leF_mem hf _ hm
    exact ⟨⟨p, hp1, by rw [ren_id]; exact hle⟩, idsF_mem hb1 _ hm⟩
  · have hm := stL_mem hr
    obtain ⟨e, he1, hle⟩ := leS_mem hs _ hm
    exact ⟨e, he1, by rw [sren_id]; exact hle, keysB_some.2 ⟨_, hr⟩, idsS_mem hb2 _ hm⟩

/-! ### rules -/
variable {wr : Bool} {np n : Nat} {Q : Lv → PS → Prop} {c b : C}

/-- Taking stock. -/
theorem LSem.weak {fl : List (Nat × PV)} {sl : List (Nat × SE)} (hE : Ent np s n fl sl) (h : LSem P wr np c Q (St n fl sl)) : LSem P wr np c Q s := by
  intro hQ code hc X w0 may a w γ hX hR
  obtain ⟨γ', hR'⟩ := hE.rel hX hR
  exact h hQ code hc X w0 may a w γ' hX hR'

theorem LSem.of_vc (hmix : P.follows .mixedOrders = true) (h : vc (PureCall P) (LSem P wr np) c Q s) : LSem P wr np c Q s :=
  fun hQ code hc => (vc_sound hmix c code Q s hQ hc h).2

theorem LSem.cut (hmix : P.follows .mixedOrders = true) {fl : List (Nat × PV)} {sl : List (Nat × SE)} (hE : Ent np s n fl sl) (h : vc (PureCall P) (LSem P wr np) c Q (St n fl sl)) : LSem P wr np c Q s :=
  LSem.weak hE (LSem.of_vc hmix h)

/-- Where branches meet. -/
theorem LSem.meet (hmix : P.follows .mixedOrders = true) {α : Type} (I : α → Prop) (fl : α → List (Nat × PV)) (sl : α → List (Nat × SE))
    (h : vc (PureCall P) (LSem P wr np) c (fun lv s' => match lv with
      | .nrm => s'.ok ∧ ∃ x, I x ∧ Ent np s' n (fl x) (sl x)
      | .ex i => Q (.ex i) s'
      | .ret => Q .ret s') s)
    (h' : ∀ x, I x → vc (PureCall P) (LSem P wr np) b Q (St n (fl x) (sl x))) : LSem P wr np (.seq c b) Q s := by
  intro hQ code hc X w0 may a w γ hX hR
  have : ∃ p q, code = .seq p q ∧ comp P wr p = some c.er ∧ comp P wr q = some b.er := by
    cases code with
    | seq p q =>
      simp only [comp, C.er] at hc
      split at hc
      · rename_i a b ha hb
        simp only [Option.some.injEq, C.seq.injEq] at hc
        obtain ⟨rfl, rfl⟩ := hc
        exact ⟨p, q, rfl, ha, hb⟩
      · cases hc
    | region id ops dr => cases dr <;> simp only [comp, C.er] at hc <;> (repeat' (split at hc)) <;> simp_all
    | _ => simp only [comp, C.er] at hc <;> (repeat' (split at hc)) <;> simp_all
  obtain ⟨p, q, rfl, hp, hq⟩ := this
  have h1 := (vc_sound hmix c p _ s (fun lv s' hs => by
    cases lv with
    | nrm => exact hs.1
    | ex i => exact hQ _ _ hs
    | ret => exact hQ _ _ hs) hp h).2 X w0 may a w γ hX hR
  refine wp_seq (wp_mono h1 ?_)
  rintro e a' w' ⟨lv, s', γ', he, hq', hR'⟩
  cases e <;> simp only [lvOf, Option.some.injEq] at he
  · subst he
    obtain ⟨_, x, hx, hE⟩ := hq'
    obtain ⟨γ2, hR2⟩ := hE.rel hX hR'
    exact LSem.of_vc hmix (h' x hx) hQ q hq X w0 may a' w' γ2 hX hR2
  · subst he; exact ⟨_, _, _, rfl, hq', hR'⟩
  · cases he
  · subst he; exact ⟨_, _, _, rfl, hq', hR'⟩
  · cases he
  · cases he

theorem wp_loop_by {α : Type} {c : Code} {Q : Exit → Act → World → Prop} (J : α → Act → World → Prop) (μ : α → Nat) (x0 : α) (h₀ : J x0 a w)
    (round : ∀ x a w, J x a w → c.wp P (Exit.then (fun a' w' => ∃ x', J x' a' w' ∧ μ x' < μ x) Q) a w) : (Code.loop c).wp P Q a w := by
  intro b k cs
  have key : ∀ n x a w, μ x = n → J x a w →
      ∃ e a' w', Q e a' w' ∧ Arrives P (lone (b.at a (.code c :: .inLoop c :: k)) cs w) b k cs e a' w' := by
    intro n
    induction n using Nat.strongRecOn with
    | _ n ih =>
      intro x a w hn hI
      obtain ⟨e, a₁, w₁, hq, harr⟩ := round x a w hI b (.inLoop c :: k) cs
      cases e with
      | normal =>
        obtain ⟨x', hI₁, hlt⟩ := hq
        obtain ⟨e₂, a₂, w₂, hq₂, harr₂⟩ := ih (μ x') (hn ▸ hlt) x' a₁ w₁ rfl hI₁
        exact ⟨e₂, a₂, w₂, hq₂, .of_steps (Steps.trans harr (.one step_inLoop)) harr₂⟩
      | exit id => exact ⟨_, a₁, w₁, hq, .pass (x := .inLoop c) rfl (fun _ _ => .inl (by simp)) harr⟩
      | goto l => exact ⟨_, a₁, w₁, hq, .pass (x := .inLoop c) rfl (fun _ _ => .inl (by simp)) harr⟩
      | ret => exact ⟨_, a₁, w₁, hq, .pass (x := .inLoop c) rfl (fun _ _ => .inl (by simp)) harr⟩
      | panic ch => exact ⟨_, a₁, w₁, hq, .pass (x := .inLoop c) rfl (fun _ _ => .inl (by simp)) harr⟩
      | outgrown => exact ⟨_, a₁, w₁, hq, .pass (x := .inLoop c) rfl (fun _ _ => .inl (by simp)) harr⟩
  obtain ⟨e, a', w', hq, harr⟩ := key _ x0 a w rfl h₀
  exact ⟨e, a', w', hq, .of_steps (.one step_loop) harr⟩

/-- Loops. -/
theorem LSem.loop (hmix : P.follows .mixedOrders = true) {α : Type} (I : α → Prop) (fl : α → List (Nat × PV)) (sl : α → List (Nat × SE)) (μ : α → Nat) (x0 : α) (h0 : I x0) (hE : Ent np s n (fl x0) (sl x0))
    (hr : ∀ x, I x → vc (PureCall P) (LSem P wr np) b (fun lv s' => match lv with
      | .nrm => s'.ok ∧ ∃ x', I x' ∧ μ x' < μ x ∧ Ent np s' n (fl x') (sl x')
      | .ex i => Q (.ex i) s'
      | .ret => Q .ret s') (St n (fl x) (sl x))) : LSem P wr np (.loop b) Q s := by
  intro hQ code hc X w0 may a w γ hX hR
  have : ∃ p, code = .loop p ∧ comp P wr p = some b.er := by
    cases code with
    | loop p =>
      simp only [comp, C.er, Option.map_eq_some_iff, C.loop.injEq] at hc
      obtain ⟨b', hb, rfl⟩ := hc
      exact ⟨p, rfl, hb⟩
    | region id ops dr => cases dr <;> simp only [comp, C.er] at hc <;> (repeat' (split at hc)) <;> simp_all
    | _ => simp only [comp, C.er] at hc <;> (repeat' (split at hc)) <;> simp_all
  obtain ⟨p, rfl, hp⟩ := this
  obtain ⟨γ0, hR0⟩ := hE.rel hX hR
  refine wp_loop_by (fun x a w => I x ∧ ∃ γ, Rel X w0 may a w (St n (fl x) (sl x)) γ) μ x0 ⟨h0, γ0, hR0⟩ ?_
  rintro x a w ⟨hI, γ, hR⟩
  have h1 := (vc_sound hmix b p _ _ (fun lv s' hs => by
    cases lv with
    | nrm => exact hs.1
    | ex i => exact hQ _ _ hs
    | ret => exact hQ _ _ hs) hp (hr x hI)).2 X w0 may a w γ hX hR
  refine wp_mono h1 ?_
  rintro e a' w' ⟨lv, s', γ', he, hq', hR'⟩
  cases e <;> simp only [lvOf, Option.some.injEq] at he
  · subst he
    obtain ⟨_, x', hx', hlt, hE'⟩ := hq'
    obtain ⟨γ2, hR2⟩ := hE'.rel hX hR'
    exact ⟨x', ⟨hx', γ2, hR2⟩, hlt⟩
  · subst he; exact ⟨_, _, _, rfl, hq', hR'⟩
  · cases he
  · subst he; exact ⟨_, _, _, rfl, hq', hR'⟩
  · cases he
  · cases he

/-- A nil slice in a slot is an empty slice of the call's own. -/
theorem LSem.adopt {fr : Nat → Option PV} {st : Nat → Option SE} {ok : Prop} {log : Nat → Option LogE} (t R : Nat) (e : TypeId) (z z' : Nat) (h1 : fr t = some (.nil z')) (h2 : st R = none)
    (h : LSem P wr np c Q ⟨n, upd fr t (.os R), upd st R (.row 0 e z 0 (fun _ => [])), ok, log⟩) : LSem P wr np c Q ⟨n, fr, st, ok, log⟩ := by
  intro hQ code hc X w0 may a w γ hX hR
  have hv := (hR.fr t _ h1).2.nil_inv
  let ge : GE := ⟨none, .slice none 0 0, z⟩
  have hE : EffOK X γ w st (Eff.pure (.os R)) (.slice none 0 0) w (upd γ R ge) (upd st R (.row 0 e z 0 (fun _ => []))) :=
    EffOK.add hR.st hR.hX h2 rfl (Keeps.refl _ _) (fun b hb => by cases hb) (fun _ => ⟨[], rfl, rfl, rfl, ⟨by simp, .inl ⟨rfl, rfl⟩⟩, by simp, fun i hi => by omega, fun i hi => by omega, fun i j c u hi => by omega⟩)
      (fun _ => .os R ge (upd_same _ _ _) rfl)
  have hR2 : Rel X w0 may (a.put none (.slice none 0 0)) w ⟨n, fr, upd st R (.row 0 e z 0 (fun _ => [])), ok, log⟩ (upd γ R ge) :=
    hR.after (s' := ⟨n, fr, upd st R (.row 0 e z 0 (fun _ => [])), ok, log⟩) hE rfl fun t p hp => .inr ⟨by simp, p, hp, (void_nil p).symm⟩
  refine h hQ code hc X w0 may a w (upd γ R ge) hX ⟨hR2.size, hR2.defers, fun t' p hp => ?_, hR2.st, hR2.keeps, hR2.lo, hR2.own, hR2.asLt, hR2.par, hR2.mayP⟩
  simp only at hp
  by_cases ht : t' = t
  · subst ht
    rw [upd_same] at hp; injection hp with hp; subst hp
    refine ⟨(hR.fr t' _ h1).1, ?_⟩
    rw [hv]
    exact .os R ge (upd_same _ _ _) rfl
  · rw [upd_ne _ _ ht] at hp; exact hR2.fr t' p hp
end
end Pv
end Go.Proofs.Ytogoplhikmmggaa
