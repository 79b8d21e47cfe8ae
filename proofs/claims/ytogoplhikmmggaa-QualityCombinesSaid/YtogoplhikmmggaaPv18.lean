/- REGIONS IN WHATEVER ORDER. -/
import Derived.Test.YtogoplhikmmggaaPv17
import Derived.Test.YtogoplhikmmggaaPv4
set_option linter.unusedSimpArgs false
set_option linter.unusedVariables false
namespace Go.Proofs.Ytogoplhikmmggaa
namespace Pv
open Go.RowKit

/-! ### what comes before what -/
def befG (acc : Array Nat) (o : Oper) : Nat := o.after.foldl (fun s e => if Region.binds .any e then s ||| 2 ^ e.on ||| acc.getD e.on 0 else s) 0

theorem befold_bit (acc : Array Nat) (i : Nat) : ∀ (l : List Edge) (s0 : Nat), (l.foldl (fun s e => if Region.binds .any e then s ||| 2 ^ e.on ||| acc.getD e.on 0 else s) s0).testBit i = true →
    s0.testBit i = true ∨ ∃ e ∈ l, Region.binds .any e = true ∧ (i = e.on ∨ (acc.getD e.on 0).testBit i = true)
  | [], s0, h => .inl h
  | e :: l, s0, h => by
    simp only [List.foldl_cons] at h
    rcases befold_bit acc i l _ h with h1 | ⟨e', he', h2, h3⟩
    · split at h1
      · rename_i hb
        rw [Nat.testBit_or, Nat.testBit_or, Nat.testBit_two_pow] at h1
        simp only [Bool.or_eq_true, decide_eq_true_eq] at h1
        rcases h1 with (h1 | h1) | h1
        · exact .inl h1
        · exact .inr ⟨e, by simp, hb, .inl h1.symm⟩
        · exact .inr ⟨e, by simp, hb, .inr h1⟩
      · exact .inl h1
    · exact .inr ⟨e', by simp [he'], h2, h3⟩

theorem pushes_old (g : Array Nat → Oper → Nat) : ∀ (l : List Oper) (acc : Array Nat) (k : Nat), k < acc.size → (l.foldl (fun acc o => acc.push (g acc o)) acc).getD k 0 = acc.getD k 0
  | [], acc, k, h => rfl
  | o :: l, acc, k, h => by
    simp only [List.foldl_cons]
    rw [pushes_old g l _ k (by simp; omega)]
    simp [Array.getD_eq_getD_getElem?, Array.getElem?_push, h, Nat.ne_of_lt h]
theorem pushes_size (g : Array Nat → Oper → Nat) : ∀ (l : List Oper) (acc : Array Nat), (l.foldl (fun acc o => acc.push (g acc o)) acc).size = acc.size + l.length
  | [], acc => rfl
  | o :: l, acc => by simp only [List.foldl_cons]; rw [pushes_size g l]; simp; omega
theorem pushes_at (g : Array Nat → Oper → Nat) : ∀ (l : List Oper) (acc : Array Nat) (t : Nat) (o : Oper), l[t]? = some o →
    (l.foldl (fun acc o => acc.push (g acc o)) acc).getD (acc.size + t) 0 = g ((l.take t).foldl (fun acc o => acc.push (g acc o)) acc) o
  | [], acc, t, o, h => by simp at h
  | o' :: l, acc, 0, o, h => by
    simp only [List.getElem?_cons_zero, Option.some.injEq] at h; subst h
    simp only [List.foldl_cons, List.take_zero, List.foldl_nil, Nat.add_zero]
    rw [pushes_old g l _ _ (by simp)]
    simp [Array.getD_eq_getD_getElem?]
  | o' :: l, acc, t + 1, o, h => by
    simp only [List.foldl_cons, List.take_succ_cons]
    have := pushes_at g l (acc.push (g acc o')) t o (by simpa using h)
    rw [← this]; congr 1; simp; omega

theorem before_bit {ops : Array Oper} {i j : Nat} {o : Oper} (hj : ops[j]? = some o) (hed : ∀ e ∈ o.after, Region.binds .any e = true → e.on < j) (h : bit (Region.before ops) i j = true) :
    ∃ e ∈ o.after, Region.binds .any e = true ∧ (i = e.on ∨ bit (Region.before ops) i e.on = true) := by
  have hfold : Region.before ops = ops.toList.foldl (fun acc o => acc.push (befG acc o)) #[] := by
    unfold Region.before befG
    rw [← Array.foldl_toList]
  have hjl : ops.toList[j]? = some o := by simpa using hj
  have hlt : j < ops.toList.length := (List.getElem?_eq_some_iff.1 hjl).1
  have h1 := pushes_at befG ops.toList #[] j o hjl
  simp only [List.size_toArray, List.length_nil, Nat.zero_add] at h1
  unfold bit at h ⊢
  rw [hfold, h1] at h
  unfold befG at h
  rw [← Array.foldl_toList] at h
  rcases befold_bit _ i _ _ h with h2 | ⟨e, he, hb, h3⟩
  · simp at h2
  · refine ⟨e, by simpa using he, hb, h3.imp (fun h => h) fun h3 => ?_⟩
    have hon := hed e (by simpa using he) hb
    have hsz := pushes_size befG (ops.toList.take j) #[]
    have hold := pushes_old befG (ops.toList.drop j) ((ops.toList.take j).foldl (fun acc o => acc.push (befG acc o)) #[]) e.on (by rw [hsz, List.length_take]; simp only [List.size_toArray, List.length_nil]; omega)
    rw [← List.foldl_append, List.take_append_drop] at hold
    rw [hfold, hold]
    exact h3

/-! ### the pairs -/
theorem mapO_mem {α β : Type} {f : α → Option β} : ∀ {l : List α} {r : List β}, mapO f l = some r → ∀ a ∈ l, ∃ b ∈ r, f a = some b
  | [], r, h, a, ha => by simp at ha
  | x :: l, r, h, a, ha => by
    simp only [mapO] at h
    split at h
    · rename_i b bs hb hbs
      injection h with h; subst h
      rcases List.mem_cons.1 ha with rfl | ha
      · exact ⟨b, by simp, hb⟩
      · obtain ⟨b', hb', he⟩ := mapO_mem hbs a ha
        exact ⟨b', by simp [hb'], he⟩
    · cases h

theorem pairs_mem {b : Array Nat} {ins : List Ins} {ps : List (Nat × Nat × Nat)} (h : pairs b ins = some ps) {i j : Nat} {x y : Ins} (hi : ins[i]? = some x) (hj : ins[j]? = some y) (hij : i < j) (hb : bit b i j = false) :
    slotsApart x y = true ∧ (i, j, x.d.getD 0) ∈ ps := by
  unfold pairs at h
  have hx : (x, i) ∈ ins.zipIdx := List.mk_mem_zipIdx_iff_getElem?.2 hi
  have hy : (y, j) ∈ ins.zipIdx := List.mk_mem_zipIdx_iff_getElem?.2 hj
  obtain ⟨q, hq, he⟩ := mapO_mem h ((x, i), (y, j)) (List.mem_filter.2 ⟨List.mem_flatMap.2 ⟨(x, i), hx, List.mem_map.2 ⟨(y, j), hy, rfl⟩⟩, by simp [hij, hb]⟩)
  simp only at he
  split at he
  · rename_i hs
    injection he with he; subst he
    exact ⟨hs, hq⟩
  · cases he

/-- What two entries of the log have to say. -/
def LApart (a b : LogE) (d : Nat) : Prop := ((a.pu = true ∨ b.pu = true) ∨ (a.rm = false ∧ b.rm = false ∧ ((∀ r ∈ a.ws, r ∉ b.ids) ∧ ∀ r ∈ b.ws, r ∉ a.ids) ∧ (∀ r ∈ b.ids, r / 16 ≠ d))) ∧
  (∀ k ∈ a.ks, k ∉ b.ms) ∧ (∀ k ∈ b.ks, k ∉ a.ms) ∧ (a.ks = [] ∨ b.nj = true)
theorem disjointL_mem {a b : List Nat} (h : disjointL a b = true) : ∀ k ∈ a, k ∉ b := fun k hk hb => by
  unfold disjointL at h
  have := List.all_eq_true.1 h k hk
  simp at this
  exact this hb
theorem killOk_spec {a b : LogE} (h : killOk a b = true) : (∀ k ∈ a.ks, k ∉ b.ms) ∧ (∀ k ∈ b.ks, k ∉ a.ms) ∧ (a.ks = [] ∨ b.nj = true) := by
  unfold killOk at h
  split at h
  · rename_i h1 h2
    rw [h1, h2]
    exact ⟨fun k hk => (by cases hk), fun k hk => (by cases hk), .inl rfl⟩
  · simp only [Bool.and_eq_true, Bool.or_eq_true, List.isEmpty_iff] at h
    exact ⟨disjointL_mem h.1, disjointL_mem h.2.1, h.2.2⟩
theorem apartOk_mem {log : Nat → Option LogE} : ∀ {ps : List (Nat × Nat × Nat)}, apartOk log ps = true → ∀ i j d, (i, j, d) ∈ ps →
    ∃ a b, log i = some a ∧ log j = some b ∧ LApart a b d
  | [], h, i, j, d, hm => by simp at hm
  | (a, b, e) :: ps, h, i, j, d, hm => by
    simp only [apartOk, Bool.and_eq_true] at h
    obtain ⟨h1, h2⟩ := h
    rcases List.mem_cons.1 hm with hm | hm
    · simp only [Prod.mk.injEq] at hm
      obtain ⟨rfl, rfl, rfl⟩ := hm
      split at h1
      · rename_i x y hx hy
        simp only [Bool.and_eq_true, Bool.not_eq_true', List.all_eq_true, beq_eq_false_iff_ne, Bool.or_eq_true] at h1
        obtain ⟨hpp, h5⟩ := h1
        rcases hpp with hpp | ⟨⟨⟨k1, k2⟩, h3⟩, h4⟩
        · exact ⟨x, y, hx, hy, .inl hpp, killOk_spec h5⟩
        refine ⟨x, y, hx, hy, .inr ⟨k1, k2, ⟨disjointL_mem h3.1, disjointL_mem h3.2⟩, fun r hr => ?_⟩, killOk_spec h5⟩
        simpa using h4 r hr
      · cases h1
    · exact apartOk_mem h2 i j d hm

section
variable {S : FuncId → List PV → List SE → CallRes → Prop} {cr : Nat → CallRes} {s s' s₁ s₂ : PS}

theorem evL_log : ∀ {l : List (Nat × Ins)} {s s' : PS} {k : Nat}, evL S true cr l s = some s' → k ∉ l.map (·.1) → s'.log k = s.log k
  | [], s, s', k, h, hk => by simp only [evL, Option.some.injEq] at h; subst h; rfl
  | (i, x) :: r, s, s', k, h, hk => by
    simp only [evL, stepX] at h
    split at h
    · rename_i s1 h1
      obtain ⟨G, vs, cs, E, H⟩ := stepI_parts h1
      simp only [List.map_cons, List.mem_cons, not_or] at hk
      rw [evL_log h hk.2, H.logAt, upd_ne _ _ hk.1]
    · cases h

/-- Neither comes before the other. -/
def Apart (log : Nat → Option LogE) (p q : Nat × Ins) : Prop := p.1 ≠ q.1 ∧ p.2.id = 16 * p.2.d.getD 0 ∧ slotsApart p.2 q.2 = true ∧
  ∃ a b, log p.1 = some a ∧ log q.1 = some b ∧ LApart a b (p.2.d.getD 0)

theorem bubble : ∀ {l : List (Nat × Ins)} {q : Nat × Ins} {m : List (Nat × Ins)} {s s' : PS}, evL S true cr (l ++ q :: m) s = some s' → ((l ++ q :: m).map (·.1)).Nodup → (∀ p ∈ l, Apart s'.log p q) →
    ∃ s'', evL S true cr (q :: (l ++ m)) s = some s'' ∧ Sim s' s''
  | [], q, m, s, s', h, hn, hA => ⟨s', h, Sim.refl _⟩
  | (k, z) :: l, (i, x), m, s, s', h, hn, hA => by
    simp only [List.cons_append, evL, stepX] at h
    split at h
    · rename_i s1 h1
      simp only [List.cons_append, List.map_cons, List.nodup_cons] at hn
      obtain ⟨s'', h2, hS⟩ := bubble h hn.2 (fun p hp => hA p (by simp [hp]))
      simp only [evL, stepX] at h2
      split at h2
      · rename_i s2 h3
        obtain ⟨a1, a2, a3, eA, eB, a4, a5, cc, c5, c6, c7⟩ := hA (k, z) (by simp)
        simp only at a1 a2 a3 a4 a5 cc
        rw [hS.log] at a4 a5
        have nn := hn.1
        have ni : i ∉ (l ++ m).map (·.1) := by
          have := hn.2
          simp only [List.map_append, List.map_cons] at this ⊢
          rw [List.nodup_append] at this
          obtain ⟨_, h5, h6⟩ := this
          simp only [List.nodup_cons] at h5
          simp only [List.mem_append, not_or]
          refine ⟨fun hm => h6 i hm i (by simp) rfl, h5.1⟩
        have nk : k ∉ (l ++ m).map (·.1) := by
          simp only [List.map_append, List.map_cons, List.mem_append, List.mem_cons, not_or] at nn ⊢
          exact ⟨nn.1, nn.2.2⟩
        rw [evL_log h2 nk] at a4
        rw [evL_log h2 ni] at a5
        have hsw : ∃ s₁' s₂', stepI S true (cr i) i x s = some s₁' ∧ stepI S true (cr k) k z s₁' = some s₂' ∧ Sim s2 s₂' := by
          rcases cc with hpu | ⟨c1, c2, c3, c4⟩
          · exact swap3 a1 h1 h3 a3 a4 a5 hpu c5 c6 c7
          · exact swap2 a1 h1 h3 a2 a3 a4 a5 c1 c2 c3.1 c3.2 c4 c5 c6 c7
        obtain ⟨s1', s2', b1, b2, b3⟩ := hsw
        obtain ⟨s3, d1, d2⟩ := evL_sim b3 h2
        refine ⟨s3, ?_, hS.trans d2⟩
        simp only [List.cons_append, evL, stepX, b1, b2]
        exact d1
      · cases h2
    · cases h
end

section
variable {P : Program} {X : Cx} {w0 : World} {may : Nat → Prop} {ops : Array Oper} {Q : Exit → Act → World → Prop}

/-- The instructions that are left, and those that are done. -/
structure Left (ops : Array Oper) (listed : Array Bool) (l : List (Nat × Ins)) : Prop where
  size : listed.size = ops.size
  mem : ∀ k, k ∈ l.map (·.1) ↔ (k < ops.size ∧ listed.getD k true = false)
  sorted : (l.map (·.1)).Pairwise (· < ·)
  down : ∀ k, k < ops.size → k ∉ l.map (·.1) → ∀ j, bit (Region.before ops) j k = true → j ∉ l.map (·.1)

theorem any_sound {wr : Bool} {cr : Nat → CallRes} {ins : List Ins} {ps : List (Nat × Nat × Nat)} (hcomp : ∀ (k : Nat) (o : Oper), ops[k]? = some o → ∃ x, ins[k]? = some x ∧ compO P wr ops o = some x)
    (hps : pairs (Region.before ops) ins = some ps) (hed : ∀ (k : Nat) (o : Oper), ops[k]? = some o → ∀ e ∈ o.after, Region.binds .any e = true → e.on < k) :
    ∀ (fuel : Nat) (l : List (Nat × Ins)) (listed : Array Bool) (a : Act) (w : World) (s s' : PS) (γ : Gh), l.length ≤ fuel → Left ops listed l → (∀ p ∈ l, ins[p.1]? = some p.2) →
    Rel X w0 may a w s γ → evL (PureCall P) true cr l s = some s' → s'.ok → apartOk s'.log ps = true →
    (∀ a' w' s'' γ', Sim s' s'' → Rel X w0 may a' w' s'' γ' → Q .normal a' w') → wpAny P .any ops Q fuel listed a w := by
  have first : ∀ {l : List (Nat × Ins)} {listed : Array Bool}, Left ops listed l → Region.ready .any ops listed = [] → l = [] := by
    intro l listed hL hr
    cases l with
    | nil => rfl
    | cons p l =>
      exfalso
      have hm := (hL.mem p.1).1 (by simp)
      have : p.1 ∈ Region.ready .any ops listed := by
        refine mem_ready.2 ⟨hm.2, ops[p.1], Array.getElem?_eq_getElem hm.1, fun e he hb => ?_⟩
        have hlt := hed p.1 _ (Array.getElem?_eq_getElem hm.1) e he hb
        have hni : e.on ∉ (p :: l).map (·.1) := fun hme => by
          simp only [List.map_cons, List.mem_cons] at hme
          rcases hme with hme | hme
          · omega
          · have := hL.sorted
            simp only [List.map_cons, List.pairwise_cons] at this
            have := this.1 _ hme
            omega
        have hlt2 : e.on < listed.size := by rw [hL.size]; omega
        have := mt (hL.mem e.on).2 hni
        simp only [Array.getD_eq_getD_getElem?, hlt2, Array.getElem?_eq_getElem, Option.getD_some] at this ⊢
        cases hh : listed[e.on] with
        | true => rfl
        | false => exact absurd ⟨by omega, hh⟩ this
      rw [hr] at this; simp at this
  intro fuel
  induction fuel with
  | zero =>
    intro l listed a w s s' γ hle hL hin hR hev hok hap hK
    have : l = [] := List.eq_nil_of_length_eq_zero (Nat.le_zero.1 hle)
    subst this
    simp only [evL, Option.some.injEq] at hev; subst hev
    refine ⟨?_, hK _ _ _ _ (Sim.refl _) hR⟩
    cases hr : Region.ready .any ops listed with
    | nil => rfl
    | cons j _ =>
      exfalso
      have hj : j ∈ Region.ready .any ops listed := by rw [hr]; simp
      obtain ⟨h1, o, h2, _⟩ := mem_ready.1 hj
      have := (hL.mem j).2 ⟨(Array.getElem?_eq_some_iff.1 h2).1, h1⟩
      simp at this
  | succ fuel ih =>
    intro l listed a w s s' γ hle hL hin hR hev hok hap hK
    refine ⟨fun hr => ?_, fun i hi => ?_⟩
    · have := first hL hr
      subst this
      simp only [evL, Option.some.injEq] at hev; subst hev
      exact hK _ _ _ _ (Sim.refl _) hR
    · obtain ⟨h1, o, h2, h3⟩ := mem_ready.1 hi
      have hisz := (Array.getElem?_eq_some_iff.1 h2).1
      have hil := (hL.mem i).2 ⟨hisz, h1⟩
      obtain ⟨⟨i', x⟩, hq, hqi⟩ := List.mem_map.1 hil
      simp only at hqi; subst hqi
      obtain ⟨l1, l2, rfl⟩ := List.append_of_mem hq
      have hnd : ((l1 ++ (i', x) :: l2).map (·.1)).Nodup := hL.sorted.imp Nat.ne_of_lt
      have hx := hin (i', x) (by simp)
      simp only at hx
      obtain ⟨x', hx', hco⟩ := hcomp i' o h2
      rw [hx] at hx'; injection hx' with hx'; subst hx'
      have hsub : ∀ k, k ∈ (l1 ++ l2).map (·.1) ↔ k ∈ (l1 ++ (i', x) :: l2).map (·.1) ∧ k ≠ i' := fun k => by
        have := hnd
        simp only [List.map_append, List.map_cons] at this
        rw [List.nodup_append] at this
        obtain ⟨_, g5, g6⟩ := this
        simp only [List.nodup_cons] at g5
        simp only [List.map_append, List.map_cons, List.mem_append, List.mem_cons]
        constructor
        · rintro (h | h)
          · exact ⟨.inl h, fun e => g6 k h i' (by simp) e⟩
          · exact ⟨.inr (.inr h), fun e => g5.1 (e ▸ h)⟩
        · rintro ⟨h | h | h, hne⟩
          · exact .inl h
          · exact absurd h hne
          · exact .inr h
      have hbef : ∀ k, k ∈ (l1 ++ (i', x) :: l2).map (·.1) → bit (Region.before ops) k i' = false := fun k hk => by
        cases hb : bit (Region.before ops) k i' with
        | false => rfl
        | true =>
          exfalso
          obtain ⟨e, he, heb, hor⟩ := before_bit h2 (hed i' o h2) hb
          have hlt := hed i' o h2 e he heb
          have hlist := h3 e he heb
          have hnot : e.on ∉ (l1 ++ (i', x) :: l2).map (·.1) := fun hm => by
            have := ((hL.mem _).1 hm).2
            have hlt2 : e.on < listed.size := by rw [hL.size]; omega
            simp only [Array.getD_eq_getD_getElem?, hlt2, Array.getElem?_eq_getElem, Option.getD_some] at this hlist
            rw [this] at hlist; cases hlist
          rcases hor with rfl | hor
          · exact hnot hk
          · exact hL.down e.on (by omega) hnot k hor hk
      have hApart : ∀ p ∈ l1, Apart s'.log p (i', x) := fun p hp => by
        have hpl : p ∈ l1 ++ (i', x) :: l2 := by simp [hp]
        have hlt : p.1 < i' := by
          have := hL.sorted
          simp only [List.map_append, List.map_cons] at this
          exact (List.pairwise_append.1 this).2.2 _ (List.mem_map.2 ⟨p, hp, rfl⟩) _ (by simp)
        have hpsz := ((hL.mem p.1).1 (List.mem_map.2 ⟨p, hpl, rfl⟩)).1
        obtain ⟨xp, hxp, hcp⟩ := hcomp p.1 _ (Array.getElem?_eq_getElem hpsz)
        rw [hin p hpl] at hxp; injection hxp with hxp; subst hxp
        obtain ⟨g1, g2⟩ := pairs_mem hps (hin p hpl) hx hlt (hbef p.1 (List.mem_map.2 ⟨p, hpl, rfl⟩))
        refine ⟨Nat.ne_of_lt hlt, ?_, g1, apartOk_mem hap _ _ _ g2⟩
        unfold compO at hcp
        split at hcp
        · injection hcp with hcp; rw [← hcp]
        · cases hcp
      obtain ⟨s'', hev', hS⟩ := bubble hev hnd hApart
      simp only [evL, stepX] at hev'
      split at hev'
      · rename_i s1 hs1
        have hok'' := hS.ok.1 hok
        refine step_sound h2 hR hco hs1 (evL_ok hev' hok'') fun a' w' γ' hR' => ?_
        refine ih (l1 ++ l2) _ a' w' s1 s'' γ' ?_ ?_ ?_ hR' hev' hok'' (by rw [← hS.log]; exact hap) ?_
        · simp only [List.length_append, List.length_cons] at hle ⊢; omega
        · refine ⟨by simp [hL.size], fun k => ?_, ?_, fun k hk hnk j hb hj => ?_⟩
          · rw [hsub, hL.mem]
            by_cases hki : k = i'
            · subst hki
              have : k < listed.size := by rw [hL.size]; exact hisz
              simp [this]
            · rw [getD_set_ne true (Ne.symm hki)]
              simp [hki]
          · have := hL.sorted
            simp only [List.map_append, List.map_cons] at this ⊢
            obtain ⟨g1, g2, g3⟩ := List.pairwise_append.1 this
            exact List.pairwise_append.2 ⟨g1, (List.pairwise_cons.1 g2).2, fun a ha b hb => g3 a ha b (by simp [hb])⟩
          · have hjl := ((hsub j).1 hj).1
            by_cases hki : k = i'
            · subst hki
              rw [hbef j hjl] at hb; cases hb
            · exact hL.down k hk (fun hm => hnk ((hsub k).2 ⟨hm, hki⟩)) j hb hjl
        · intro p hp
          refine hin p ?_
          simp only [List.mem_append, List.mem_cons] at hp ⊢
          rcases hp with hp | hp
          · exact .inl hp
          · exact .inr (.inr hp)
        · intro a'' w'' s3 γ'' h4 h5
          exact hK a'' w'' s3 γ'' (hS.trans h4) h5
      · cases hev'
end
end Pv
end Go.Proofs.Ytogoplhikmmggaa
