/- LAW 29: what truly was lies within the bounds: the plain law. -/
import Derived.Test.YtiknpkadlckmjaaW14
namespace Go.Proofs.Ytiknpkadlckmjaa
namespace Pv

/-- Measures of a history. -/
structure Hist (c : Ck) (L : List Int) (frm : Int) (ms : List Me) : Prop where
  sm : SmallC c
  fr0 : 0 ≤ frm ∧ frm ≤ 1000
  len : L.length ≤ 100
  mlen : ms.length ≤ 100
  lim : ∀ i, i < L.length → c.lo ≤ L.getD i default ∧ L.getD i default ≤ c.hi
  step : ∀ i, i + 1 < L.length → L.getD (i + 1) default - L.getD i default ≤ c.j ∧ L.getD i default - L.getD (i + 1) default ≤ c.j
  at_ : ∀ m ∈ ms, ∃ i, i < L.length ∧ m.t = frm + (i : Int) ∧ m.v - L.getD i default ≤ m.o ∧ L.getD i default - m.v ≤ m.o ∧ 0 ≤ m.v ∧ m.v ≤ 1000 ∧ 0 ≤ m.o ∧ m.o ≤ 1000
  inc : ms.Pairwise (fun m n => m.t < n.t)

theorem Hist.far {c : Ck} {L : List Int} {frm : Int} {ms : List Me} (h : Hist c L frm ms) : ∀ (d i : Nat), i + d < L.length → L.getD (i + d) default - L.getD i default ≤ c.j * d ∧ L.getD i default - L.getD (i + d) default ≤ c.j * d
  | 0, i, hi => by simp
  | d + 1, i, hi => by
    have h1 := Hist.far h d i (by omega)
    have h2 := h.step (i + d) (by omega)
    rw [show i + (d + 1) = i + d + 1 from rfl]
    have e : c.j * ((d + 1 : Nat) : Int) = c.j * d + c.j := by rw [show ((d + 1 : Nat) : Int) = (d : Int) + 1 from rfl, Int.mul_add, Int.mul_one]
    rw [e]; omega

theorem Hist.in_ {c : Ck} {L : List Int} {frm : Int} {ms : List Me} (h : Hist c L frm ms) {k : Nat} (hk : k < L.length) : (boundsF ms c (frm + k)).lo ≤ L.getD k default ∧ L.getD k default ≤ (boundsF ms c (frm + k)).hi := by
  obtain ⟨h1, h2, h3, h4, h5⟩ := boundsF_is ms c (frm + k)
  have hl := h.lim k hk
  have key : ∀ m ∈ ms, m.v - reach m c (frm + k) ≤ L.getD k default ∧ L.getD k default ≤ m.v + reach m c (frm + k) := by
    intro m hm
    obtain ⟨i, hi, ht, hv1, hv2, _⟩ := h.at_ m hm
    have hd : L.getD k default - L.getD i default ≤ c.j * mx (m.t - (frm + k)) (0 - (m.t - (frm + k))) ∧ L.getD i default - L.getD k default ≤ c.j * mx (m.t - (frm + k)) (0 - (m.t - (frm + k))) := by
      rw [mx_eq, ht]
      rcases Nat.le_total i k with hik | hik
      · have := h.far (k - i) i (by omega)
        rw [show i + (k - i) = k by omega] at this
        rw [show max (frm + (i : Int) - (frm + k)) (0 - (frm + (i : Int) - (frm + k))) = ((k - i : Nat) : Int) by omega]
        omega
      · have := h.far (i - k) k (by omega)
        rw [show k + (i - k) = i by omega] at this
        rw [show max (frm + (i : Int) - (frm + k)) (0 - (frm + (i : Int) - (frm + k))) = ((i - k : Nat) : Int) by omega]
        omega
    unfold reach; omega
  constructor
  · rcases h4 with h4 | ⟨i, m, _, hm, h4⟩
    · omega
    · have := (key m (List.mem_of_getElem? hm)).1; omega
  · rcases h5 with h5 | ⟨i, m, _, hm, h5⟩
    · omega
    · have := (key m (List.mem_of_getElem? hm)).2; omega

theorem Hist.check {c : Ck} {L : List Int} {frm : Int} {ms : List Me} (h : Hist c L frm ms) : checkF ms c = 0 := by
  obtain ⟨c1, c2, c3, c4, c5, c6⟩ := h.sm
  obtain ⟨f1, f2⟩ := h.fr0
  have hL := h.len
  have hm := h.mlen
  have hlim : limitsF c = 0 := by unfold limitsF; rw [if_neg (by omega)]
  have hall : ∀ k, k < ms.length → ∃ i, i < L.length ∧ (ms.getD k default).t = frm + (i : Int) ∧ 0 ≤ (ms.getD k default).v ∧ (ms.getD k default).v ≤ 1000 ∧ 0 ≤ (ms.getD k default).o ∧ (ms.getD k default).o ≤ 1000 := fun k hk => by
    obtain ⟨i, a, b, _, _, e⟩ := h.at_ _ (getD_mem hk)
    exact ⟨i, a, b, e⟩
  have herr : ∀ n i, i + n ≤ ms.length → scan (errAt ms) i n = 0 := by
    intro n
    induction n with
    | zero => intro i _; rfl
    | succ n ih =>
      intro i hi
      have he : errAt ms i = 0 := by
        obtain ⟨j, hj, ht, e1, e2, e3, e4⟩ := hall i (by omega)
        unfold errAt
        rw [if_neg (by omega), if_neg ?_, if_neg (by omega)]
        rintro ⟨h0, h1⟩
        have := List.pairwise_iff_getElem.1 h.inc (i - 1) i (by omega) (by omega) (by omega)
        have e5 : ms.getD i default = ms[i] := by rw [List.getD_eq_getElem?_getD, List.getElem?_eq_getElem (by omega)]; rfl
        have e6 : ms.getD (i - 1) default = ms[i - 1] := by rw [List.getD_eq_getElem?_getD, List.getElem?_eq_getElem (by omega)]; rfl
        rw [e5, e6] at h1
        omega
      rw [scan_step (by omega) he]
      exact ih (i + 1) (by omega)
  have hw : ∀ n i, i + n ≤ ms.length → scan (widAt ms c) i n = 0 := by
    intro n
    induction n with
    | zero => intro i _; rfl
    | succ n ih =>
      intro i hi
      have he : widAt ms c i = 0 := by
        obtain ⟨j, hj, ht, _⟩ := hall i (by omega)
        have := h.in_ hj
        unfold widAt
        rw [ht, if_neg (by omega)]
      rw [scan_step (by omega) he]
      exact ih (i + 1) (by omega)
  rw [check_wide hlim (by omega) (herr _ 0 (by omega))]
  exact hw _ 0 (by omega)

theorem Hist.fill {c : Ck} {L : List Int} {frm : Int} {ms : List Me} (h : Hist c L frm ms) (h0 : 0 < L.length) : fillF ms c frm (frm + L.length - 1) = ((List.range L.length).map fun (i : Nat) => boundsF ms c (frm + (i : Int)), 0) := by
  obtain ⟨f1, f2⟩ := h.fr0
  have hL := h.len
  unfold fillF
  rw [if_neg (by rw [h.check]; simp), if_neg (by omega), if_neg (by omega), show (frm + (L.length : Int) - 1 - frm + 1).toNat = L.length by omega]

theorem Hist.within {c : Ck} {L : List Int} {frm : Int} {ms : List Me} (h : Hist c L frm ms) : withinF ((List.range L.length).map fun (i : Nat) => boundsF ms c (frm + (i : Int))) L = true := by
  unfold withinF
  rw [decide_eq_true (by simp), Bool.true_and]
  refine decide_eq_true ?_
  have : ∀ n i, i + n ≤ L.length → scan (outAt ((List.range L.length).map fun (i : Nat) => boundsF ms c (frm + (i : Int))) L) i n = 0 := by
    intro n
    induction n with
    | zero => intro i _; rfl
    | succ n ih =>
      intro i hi
      have hlt : i < L.length := by omega
      have he : outAt ((List.range L.length).map fun (i : Nat) => boundsF ms c (frm + (i : Int))) L i = 0 := by
        have := h.in_ hlt
        have e : ((List.range L.length).map fun (i : Nat) => boundsF ms c (frm + (i : Int))).getD i default = boundsF ms c (frm + (i : Int)) := by
          rw [List.getD_eq_getElem?_getD]; simp [hlt]
        unfold outAt
        rw [e, if_neg (by omega)]
      rw [scan_step (by omega) he]
      exact ih (i + 1) (by omega)
  simpa using this L.length 0 (by omega)

/-- Leaving out one. -/
def dropAt (l : List Me) (k : Nat) : List Me := l.take k ++ l.drop (k + 1)
theorem dropAt_sub (l : List Me) (k : Nat) : (dropAt l k).Sublist l := by
  unfold dropAt
  have h : l.take k ++ l.drop k = l := List.take_append_drop k l
  have h2 : (l.take k ++ l.drop (k + 1)).Sublist (l.take k ++ l.drop k) := List.Sublist.append (List.Sublist.refl _) (by rw [← List.drop_drop]; exact List.drop_sublist _ _)
  rwa [h] at h2

theorem Hist.sub {c : Ck} {L : List Int} {frm : Int} {ms ns : List Me} (h : Hist c L frm ms) (hs : ns.Sublist ms) : Hist c L frm ns :=
  ⟨h.sm, h.fr0, h.len, Nat.le_trans hs.length_le h.mlen, h.lim, h.step, fun m hm => h.at_ m (hs.subset hm), h.inc.sublist hs⟩

theorem wider {c : Ck} {ms ns : List Me} {time : Int} (hs : ns.Sublist ms) : (boundsF ns c time).lo ≤ (boundsF ms c time).lo ∧ (boundsF ms c time).hi ≤ (boundsF ns c time).hi := by
  obtain ⟨h1, h2, h3, _, _⟩ := boundsF_is ms c time
  obtain ⟨_, _, _, h4, h5⟩ := boundsF_is ns c time
  have key : ∀ k m, ns[k]? = some m → m.v - reach m c time ≤ (boundsF ms c time).lo ∧ (boundsF ms c time).hi ≤ m.v + reach m c time := fun k m hm => by
    obtain ⟨j, hj⟩ := List.getElem?_of_mem (hs.subset (List.mem_of_getElem? hm))
    exact h3 j m (List.getElem?_eq_some_iff.1 hj).1 hj
  constructor
  · rcases h4 with h4 | ⟨k, m, _, hm, h4⟩
    · omega
    · have := (key k m hm).1; omega
  · rcases h5 with h5 | ⟨k, m, _, hm, h5⟩
    · omega
    · have := (key k m hm).2; omega


/-! ### histories that are made -/
def WInv (c : Ck) (s : List Int × Int × Dk) : Prop := 1 ≤ s.1.length ∧ s.1.getD (s.1.length - 1) default = s.2.1 ∧ (c.lo ≤ s.2.1 ∧ s.2.1 ≤ c.hi) ∧
  ∀ i, i + 1 < s.1.length → s.1.getD (i + 1) default - s.1.getD i default ≤ c.j ∧ s.1.getD i default - s.1.getD (i + 1) default ≤ c.j
theorem getD_push {α : Type} [Inhabited α] (l : List α) (p : α) (i : Nat) : (l ++ [p]).getD i default = if i < l.length then l.getD i default else if i = l.length then p else default := by
  by_cases h : i < l.length
  · rw [if_pos h, List.getD_eq_getElem?_getD, List.getD_eq_getElem?_getD, List.getElem?_append_left h]
  · rw [if_neg h]
    by_cases h2 : i = l.length
    · rw [if_pos h2, h2, List.getD_eq_getElem?_getD, List.getElem?_append_right (Nat.le_refl _)]; simp
    · rw [if_neg h2, List.getD_eq_getElem?_getD, List.getElem?_eq_none (by simp; omega)]; rfl
theorem wk_inv {c : Ck} (hc : SmallC c) : ∀ (k : Nat) (s : List Int × Int × Dk), WInv c s → WInv c (wk c k s)
  | 0, s, h => h
  | k + 1, s, ⟨h1, h2, h3, h4⟩ => by
    obtain ⟨_, hlh, _, hj, _, _⟩ := id hc
    have r := nxt_rng s.2.2 (2 * c.j + 1)
    have hw : c.lo ≤ wstep c s.2.1 s.2.2 ∧ wstep c s.2.1 s.2.2 ≤ c.hi ∧ wstep c s.2.1 s.2.2 - s.2.1 ≤ c.j ∧ s.2.1 - wstep c s.2.1 s.2.2 ≤ c.j := by
      unfold wstep; rw [mx_eq, mn_eq]; omega
    refine wk_inv hc k (s.1 ++ [wstep c s.2.1 s.2.2], wstep c s.2.1 s.2.2, nxtD s.2.2 (2 * c.j + 1)) ⟨?_, ?_, ⟨hw.1, hw.2.1⟩, ?_⟩
    · simp
    · dsimp only; rw [getD_push]; simp
    · intro i hi
      dsimp only at hi ⊢
      rw [List.length_append, List.length_cons, List.length_nil] at hi
      rw [getD_push, getD_push]
      by_cases hh : i + 1 < s.1.length
      · rw [if_pos hh, if_pos (by omega)]; exact h4 i hh
      · rw [if_neg hh, if_pos (by omega), if_pos (by omega), show i = s.1.length - 1 by omega, h2]; omega
theorem walk_steps {c : Ck} (hc : SmallC c) (d : Dk) (n : Int) : ∀ i, i + 1 < (walkS d c n).1.length → (walkS d c n).1.getD (i + 1) default - (walkS d c n).1.getD i default ≤ c.j ∧ (walkS d c n).1.getD i default - (walkS d c n).1.getD (i + 1) default ≤ c.j := by
  have r := nxt_rng d (c.hi - c.lo + 1)
  have hlh := hc.2.1
  refine (wk_inv hc (n.toNat - 1) (wst0 d c) ⟨Nat.le_refl _, rfl, ?_, ?_⟩).2.2.2
  · dsimp only [wst0]; omega
  · intro i hi
    have : i + 1 < 1 := hi
    omega
theorem msr_at (frm : Int) : ∀ (xs : List Int) (i : Nat) (d : Dk), (∀ x ∈ xs, 0 ≤ x ∧ x ≤ 100) → ∀ m ∈ (msr frm i xs d).1, ∃ k, k < xs.length ∧ m.t = frm + (i : Int) + (k : Int) ∧ m.v - xs.getD k default ≤ m.o ∧ xs.getD k default - m.v ≤ m.o ∧ 0 ≤ m.v ∧ m.v ≤ 1000 ∧ 0 ≤ m.o ∧ m.o ≤ 1000
  | [], i, d, _, m, hm => by rw [msr] at hm; cases hm
  | x :: xs, i, d, hx, m, hm => by
    have hx0 := hx x List.mem_cons_self
    have hrec : ∀ d', m ∈ (msr frm (i + 1) xs d').1 → ∃ k, k < (x :: xs).length ∧ m.t = frm + (i : Int) + (k : Int) ∧ m.v - (x :: xs).getD k default ≤ m.o ∧ (x :: xs).getD k default - m.v ≤ m.o ∧ 0 ≤ m.v ∧ m.v ≤ 1000 ∧ 0 ≤ m.o ∧ m.o ≤ 1000 := fun d' hm' => by
      obtain ⟨k, a, b, c⟩ := msr_at frm xs (i + 1) d' (fun y hy => hx y (List.mem_cons_of_mem _ hy)) m hm'
      exact ⟨k + 1, by simpa using a, by rw [b]; omega, by simpa using c⟩
    by_cases h : nxt d 3 = 0
    · rw [msr_hit h] at hm
      rcases List.mem_cons.1 hm with rfl | hm
      · have r1 := nxt_rng (nxtD d 3) 4
        have r2 := nxt_rng (nxtD (nxtD d 3) 4) (2 * nxt (nxtD d 3) 4 + 1)
        refine ⟨0, by simp, ?_, ?_⟩
        · dsimp only [mk1]; omega
        · simp only [List.getD_cons_zero]
          dsimp only [mk1]; rw [mx_eq]; omega
      · exact hrec _ hm
    · rw [msr_skip h] at hm
      exact hrec _ hm
theorem msr_inc (frm : Int) : ∀ (xs : List Int) (i : Nat) (d : Dk), (∀ x ∈ xs, 0 ≤ x ∧ x ≤ 100) → (msr frm i xs d).1.Pairwise (fun m n => m.t < n.t) ∧ (msr frm i xs d).1.length ≤ xs.length
  | [], i, d, _ => by rw [msr]; exact ⟨List.Pairwise.nil, Nat.le_refl _⟩
  | x :: xs, i, d, hx => by
    have hrec := fun d' => msr_inc frm xs (i + 1) d' (fun y hy => hx y (List.mem_cons_of_mem _ hy))
    by_cases h : nxt d 3 = 0
    · rw [msr_hit h]
      refine ⟨List.Pairwise.cons (fun m hm => ?_) (hrec _).1, ?_⟩
      · obtain ⟨k, a, b, _⟩ := msr_at frm xs (i + 1) _ (fun y hy => hx y (List.mem_cons_of_mem _ hy)) m hm
        rw [b]; dsimp only [mk1]; omega
      · have := (hrec (dk1 d)).2
        simp only [List.length_cons]; omega
    · rw [msr_skip h]
      refine ⟨(hrec _).1, ?_⟩
      have := (hrec (nxtD d 3)).2
      simp only [List.length_cons]; omega
theorem hist_of {c : Ck} (hc : SmallC c) (d d' : Dk) (n frm : Int) (hn : n ≤ 50) (hf : 0 ≤ frm ∧ frm ≤ 1000) : Hist c (walkS d c n).1 frm (msr frm 0 (walkS d c n).1 d').1 := by
  obtain ⟨w1, w2, _⟩ := walkS_props (d := d) hc n
  have hx : ∀ x ∈ (walkS d c n).1, 0 ≤ x ∧ x ≤ 100 := fun x hx => by
    have := w1 x hx; obtain ⟨a, b, e, _⟩ := hc; omega
  obtain ⟨i1, i2⟩ := msr_inc frm (walkS d c n).1 0 d' hx
  refine ⟨hc, hf, by omega, by omega, fun i hi => w1 _ (getD_mem hi), walk_steps hc d n, fun m hm => ?_, i1⟩
  obtain ⟨k, a, b, e⟩ := msr_at frm (walkS d c n).1 0 d' hx m hm
  exact ⟨k, a, by rw [b]; omega, e⟩
end Pv
end Go.Proofs.Ytiknpkadlckmjaa
