/- LAW 29: both ends of the bounds are possible histories: the plain law. -/
import Derived.Test.YtiknpkadlckmjaaW19
import Derived.Test.YtiknpkadlckmjaaW16
namespace Go.Proofs.Ytiknpkadlckmjaa
namespace Pv

theorem tri3 (J a b t : Int) (hJ : 0 ≤ J) : J * mx (a - b) (0 - (a - b)) ≤ J * mx (a - t) (0 - (a - t)) + J * mx (b - t) (0 - (b - t)) := by
  rw [← Int.mul_add]
  exact Int.mul_le_mul_of_nonneg_left (by rw [mx_eq, mx_eq, mx_eq]; omega) hJ
theorem reach_own (m : Me) (c : Ck) : reach m c m.t = m.o := by
  unfold reach; rw [Int.sub_self, mx_eq]; simp
theorem reach_step (m : Me) (c : Ck) (hJ : 0 ≤ c.j) (t : Int) : reach m c (t + 1) ≤ reach m c t + c.j ∧ reach m c t ≤ reach m c (t + 1) + c.j := by
  unfold reach
  have h1 : c.j * mx (m.t - (t + 1)) (0 - (m.t - (t + 1))) ≤ c.j * (mx (m.t - t) (0 - (m.t - t)) + 1) := Int.mul_le_mul_of_nonneg_left (by rw [mx_eq, mx_eq]; omega) hJ
  have h2 : c.j * mx (m.t - t) (0 - (m.t - t)) ≤ c.j * (mx (m.t - (t + 1)) (0 - (m.t - (t + 1))) + 1) := Int.mul_le_mul_of_nonneg_left (by rw [mx_eq, mx_eq]; omega) hJ
  rw [Int.mul_add, Int.mul_one] at h1 h2
  omega

/-- Measures that are put in order of their steps. -/
structure Ord (c : Ck) (l : List Me) : Prop where
  sm : SmallC c
  len : l.length ≤ 400
  rng : ∀ m ∈ l, 0 ≤ m.t ∧ m.t ≤ 100000 ∧ 0 ≤ m.v ∧ m.v ≤ 100000 ∧ 0 ≤ m.o ∧ m.o ≤ 100000
  inc : l.Pairwise (fun m n => m.t < n.t)

theorem Ord.check {c : Ck} {l : List Me} (h : Ord c l) : checkF l c = scan (widAt l c) 0 l.length := by
  obtain ⟨c1, c2, c3, c4, c5, c6⟩ := h.sm
  have hlim : limitsF c = 0 := by unfold limitsF; rw [if_neg (by omega)]
  refine check_wide hlim h.len ?_
  cases Classical.em (scan (errAt l) 0 l.length = 0) with
  | inl h => exact h
  | inr hh =>
    exfalso
    obtain ⟨k, _, hk, hf, _⟩ := scan_some hh
    have hm := h.rng _ (getD_mem (l := l) (i := k) (by omega))
    refine hf ?_
    unfold errAt
    rw [if_neg (by omega), if_neg ?_, if_neg (by omega)]
    rintro ⟨h0, h1⟩
    have := List.pairwise_iff_getElem.1 h.inc (k - 1) k (by omega) (by omega) (by omega)
    have e5 : l.getD k default = l[k] := by rw [List.getD_eq_getElem?_getD, List.getElem?_eq_getElem (by omega)]; rfl
    have e6 : l.getD (k - 1) default = l[k - 1] := by rw [List.getD_eq_getElem?_getD, List.getElem?_eq_getElem (by omega)]; rfl
    rw [e5, e6] at h1
    omega
theorem Ord.err {c : Ck} {l : List Me} (h : Ord c l) : checkF l c = 0 ∨ checkF l c = 48 := by
  rw [h.check]
  cases Classical.em (scan (widAt l c) 0 l.length = 0) with
  | inl h => exact .inl h
  | inr hh =>
    obtain ⟨k, _, hk, hf, he⟩ := scan_some hh
    right
    rw [he]
    unfold widAt at hf ⊢
    split
    · rfl
    · rename_i hn; rw [if_neg hn] at hf; exact absurd rfl hf
theorem Ord.own {c : Ck} {l : List Me} (h : Ord c l) (h0 : checkF l c = 0) : ∀ m ∈ l, (boundsF l c m.t).lo ≤ (boundsF l c m.t).hi := by
  rw [h.check] at h0
  intro m hm
  obtain ⟨k, hk, rfl⟩ := List.getElem_of_mem hm
  have := scan_zero h0 k (by omega) (by omega)
  unfold widAt at this
  have e : l.getD k default = l[k] := by rw [List.getD_eq_getElem?_getD, List.getElem?_eq_getElem hk]; rfl
  rw [e] at this
  split at this
  · cases this
  · omega
theorem Ord.mem {c : Ck} {l : List Me} {time : Int} : ∀ m ∈ l, m.v - reach m c time ≤ (boundsF l c time).lo ∧ (boundsF l c time).hi ≤ m.v + reach m c time := by
  intro m hm
  obtain ⟨j, hj⟩ := List.getElem?_of_mem hm
  exact (boundsF_is l c time).2.2.1 j m (List.getElem?_eq_some_iff.1 hj).1 hj
theorem Ord.lo {c : Ck} {l : List Me} {time : Int} : (boundsF l c time).lo = c.lo ∨ ∃ m ∈ l, (boundsF l c time).lo = m.v - reach m c time := by
  rcases (boundsF_is l c time).2.2.2.1 with h | ⟨k, m, _, hm, h⟩
  · exact .inl h
  · exact .inr ⟨m, List.mem_of_getElem? hm, h⟩
theorem Ord.hi {c : Ck} {l : List Me} {time : Int} : (boundsF l c time).hi = c.hi ∨ ∃ m ∈ l, (boundsF l c time).hi = m.v + reach m c time := by
  rcases (boundsF_is l c time).2.2.2.2 with h | ⟨k, m, _, hm, h⟩
  · exact .inl h
  · exact .inr ⟨m, List.mem_of_getElem? hm, h⟩
theorem Ord.lims {c : Ck} {l : List Me} {time : Int} : c.lo ≤ (boundsF l c time).lo ∧ (boundsF l c time).hi ≤ c.hi :=
  ⟨(boundsF_is l c time).1, (boundsF_is l c time).2.1⟩
theorem reach_ge (m : Me) (c : Ck) (hJ : 0 ≤ c.j) (t : Int) : m.o ≤ reach m c t := by
  unfold reach
  have := mx_pos (m.t - t) c.j hJ
  omega
theorem Ord.ne {c : Ck} {l : List Me} (h : Ord c l) (h0 : checkF l c = 0) (time : Int) : (boundsF l c time).lo ≤ (boundsF l c time).hi := by
  have hJ : 0 ≤ c.j := h.sm.2.2.2.1
  have hlh := h.sm.2.1
  have ho := h.own h0
  rcases Ord.lo (c := c) (l := l) (time := time) with e1 | ⟨m, hm, e1⟩ <;> rcases Ord.hi (c := c) (l := l) (time := time) with e2 | ⟨n, hn, e2⟩
  · omega
  · have a1 := ho n hn
    have a2 := Ord.lims (c := c) (l := l) (time := n.t)
    have a3 := (Ord.mem (c := c) (l := l) (time := n.t) n hn).2
    rw [reach_own] at a3
    have a4 := reach_ge n c hJ time
    omega
  · have a1 := ho m hm
    have a2 := Ord.lims (c := c) (l := l) (time := m.t)
    have a3 := (Ord.mem (c := c) (l := l) (time := m.t) m hm).1
    rw [reach_own] at a3
    have a4 := reach_ge m c hJ time
    omega
  · have a1 := ho m hm
    have a3 := (Ord.mem (c := c) (l := l) (time := m.t) m hm).1
    have a5 := (Ord.mem (c := c) (l := l) (time := m.t) n hn).2
    rw [reach_own] at a3
    have a6 := tri3 c.j n.t m.t time hJ
    unfold reach at a5 e1 e2
    omega
theorem Ord.step {c : Ck} {l : List Me} (h : Ord c l) (t : Int) : ((boundsF l c (t + 1)).lo - (boundsF l c t).lo ≤ c.j ∧ (boundsF l c t).lo - (boundsF l c (t + 1)).lo ≤ c.j) ∧ ((boundsF l c (t + 1)).hi - (boundsF l c t).hi ≤ c.j ∧ (boundsF l c t).hi - (boundsF l c (t + 1)).hi ≤ c.j) := by
  have hJ : 0 ≤ c.j := h.sm.2.2.2.1
  have l1 := Ord.lims (c := c) (l := l) (time := t)
  have l2 := Ord.lims (c := c) (l := l) (time := t + 1)
  have s := fun m => reach_step m c hJ t
  have m1 := Ord.mem (c := c) (l := l) (time := t)
  have m2 := Ord.mem (c := c) (l := l) (time := t + 1)
  refine ⟨⟨?_, ?_⟩, ?_, ?_⟩
  · rcases Ord.lo (c := c) (l := l) (time := t + 1) with e | ⟨m, hm, e⟩
    · omega
    · have := (m1 m hm).1; have := s m; omega
  · rcases Ord.lo (c := c) (l := l) (time := t) with e | ⟨m, hm, e⟩
    · omega
    · have := (m2 m hm).1; have := s m; omega
  · rcases Ord.hi (c := c) (l := l) (time := t) with e | ⟨m, hm, e⟩
    · omega
    · have := (m2 m hm).2; have := s m; omega
  · rcases Ord.hi (c := c) (l := l) (time := t + 1) with e | ⟨m, hm, e⟩
    · omega
    · have := (m1 m hm).2; have := s m; omega

/-- Both ends. -/
def lows (l : List Me) (c : Ck) (n : Nat) : List Int := (List.range n).map fun (i : Nat) => (boundsF l c (0 + (i : Int))).lo
def highs (l : List Me) (c : Ck) (n : Nat) : List Int := (List.range n).map fun (i : Nat) => (boundsF l c (0 + (i : Int))).hi
theorem range_get {α : Type} [Inhabited α] (f : Nat → α) {n i : Nat} (h : i < n) : ((List.range n).map f).getD i default = f i := by
  rw [List.getD_eq_getElem?_getD]; simp [h]
theorem Ord.lows_ok {c : Ck} {l : List Me} (h : Ord c l) (h0 : checkF l c = 0) (n : Nat) :
    (∀ i, i < (lows l c n).length → c.lo ≤ (lows l c n).getD i default ∧ (lows l c n).getD i default ≤ c.hi ∧ (0 < i → (lows l c n).getD i default - (lows l c n).getD (i - 1) default ≤ c.j ∧ (lows l c n).getD (i - 1) default - (lows l c n).getD i default ≤ c.j)) ∧
    (∀ m ∈ l, 0 ≤ m.t ∧ m.t ≤ 100000 ∧ 0 ≤ m.v ∧ m.v ≤ 100000 ∧ ∀ i, i < (lows l c n).length → m.t = (i : Int) → (lows l c n).getD i default - m.v ≤ m.o ∧ m.v - (lows l c n).getD i default ≤ m.o) := by
  have hl : (lows l c n).length = n := by simp [lows]
  have hg : ∀ i, i < n → (lows l c n).getD i default = (boundsF l c (0 + (i : Int))).lo := fun i hi => range_get _ hi
  rw [hl]
  refine ⟨fun i hi => ?_, fun m hm => ?_⟩
  · rw [hg i hi]
    have a := Ord.lims (c := c) (l := l) (time := 0 + (i : Int))
    have b := h.ne h0 (0 + (i : Int))
    refine ⟨a.1, by omega, fun h1 => ?_⟩
    rw [hg (i - 1) (by omega)]
    have s := (h.step (0 + ((i - 1 : Nat) : Int))).1
    rw [show 0 + ((i - 1 : Nat) : Int) + 1 = 0 + (i : Int) by omega] at s
    exact s
  · have r := h.rng m hm
    refine ⟨r.1, r.2.1, r.2.2.1, r.2.2.2.1, fun i hi ht => ?_⟩
    rw [hg i hi]
    have b := h.ne h0 (0 + (i : Int))
    have e : (0 : Int) + (i : Int) = m.t := by omega
    rw [e] at b ⊢
    have a := Ord.mem (c := c) (l := l) (time := m.t) m hm
    rw [reach_own] at a
    omega
theorem Ord.highs_ok {c : Ck} {l : List Me} (h : Ord c l) (h0 : checkF l c = 0) (n : Nat) :
    (∀ i, i < (highs l c n).length → c.lo ≤ (highs l c n).getD i default ∧ (highs l c n).getD i default ≤ c.hi ∧ (0 < i → (highs l c n).getD i default - (highs l c n).getD (i - 1) default ≤ c.j ∧ (highs l c n).getD (i - 1) default - (highs l c n).getD i default ≤ c.j)) ∧
    (∀ m ∈ l, 0 ≤ m.t ∧ m.t ≤ 100000 ∧ 0 ≤ m.v ∧ m.v ≤ 100000 ∧ ∀ i, i < (highs l c n).length → m.t = (i : Int) → (highs l c n).getD i default - m.v ≤ m.o ∧ m.v - (highs l c n).getD i default ≤ m.o) := by
  have hl : (highs l c n).length = n := by simp [highs]
  have hg : ∀ i, i < n → (highs l c n).getD i default = (boundsF l c (0 + (i : Int))).hi := fun i hi => range_get _ hi
  rw [hl]
  refine ⟨fun i hi => ?_, fun m hm => ?_⟩
  · rw [hg i hi]
    have a := Ord.lims (c := c) (l := l) (time := 0 + (i : Int))
    have b := h.ne h0 (0 + (i : Int))
    refine ⟨by omega, a.2, fun h1 => ?_⟩
    rw [hg (i - 1) (by omega)]
    have s := (h.step (0 + ((i - 1 : Nat) : Int))).2
    rw [show 0 + ((i - 1 : Nat) : Int) + 1 = 0 + (i : Int) by omega] at s
    exact s
  · have r := h.rng m hm
    refine ⟨r.1, r.2.1, r.2.2.1, r.2.2.2.1, fun i hi ht => ?_⟩
    rw [hg i hi]
    have b := h.ne h0 (0 + (i : Int))
    have e : (0 : Int) + (i : Int) = m.t := by omega
    rw [e] at b ⊢
    have a := Ord.mem (c := c) (l := l) (time := m.t) m hm
    rw [reach_own] at a
    omega

/-- Measures that are made, and more behind them. -/
def rwM (raw : List Me) (k : Nat) : Me := ⟨12 + 2 * (k : Int), (raw.getD k default).v % 60, (raw.getD k default).o % 30⟩
def rws (raw : List Me) (n : Nat) : List Me := (List.range n).map (rwM raw)
theorem rws_succ (raw : List Me) (n : Nat) : rws raw (n + 1) = rws raw n ++ [rwM raw n] := by unfold rws; rw [List.range_succ, List.map_append]; rfl
theorem rws_len (raw : List Me) (n : Nat) : (rws raw n).length = n := by simp [rws]
theorem ord_of {c : Ck} (hc : SmallC c) (d d' : Dk) (raw : List Me) (hr : raw.length ≤ 40) : Ord c ((msr 0 0 (walkS d c 10).1 d').1 ++ rws raw raw.length) := by
  obtain ⟨w1, w2, _⟩ := walkS_props (d := d) hc 10
  have hx : ∀ x ∈ (walkS d c 10).1, 0 ≤ x ∧ x ≤ 100 := fun x hx => by
    have := w1 x hx; obtain ⟨a, b, e, _⟩ := hc; omega
  obtain ⟨i1, i2⟩ := msr_inc 0 (walkS d c 10).1 0 d' hx
  have ha := msr_at 0 (walkS d c 10).1 0 d' hx
  have hlen : (walkS d c 10).1.length = 10 := by rw [w2]; decide
  rw [hlen] at i2 ha
  have hb : ∀ m ∈ rws raw raw.length, 12 ≤ m.t ∧ m.t ≤ 100 ∧ 0 ≤ m.v ∧ m.v ≤ 60 ∧ 0 ≤ m.o ∧ m.o ≤ 30 := fun m hm => by
    obtain ⟨k, hk, rfl⟩ := List.mem_map.1 hm
    rw [List.mem_range] at hk
    dsimp only [rwM]; omega
  refine ⟨hc, by rw [List.length_append, rws_len]; omega, fun m hm => ?_, ?_⟩
  · rcases List.mem_append.1 hm with hm | hm
    · obtain ⟨k, a, b, e⟩ := ha m hm; omega
    · have := hb m hm; omega
  · rw [List.pairwise_append]
    refine ⟨i1, ?_, fun m hm n hn => ?_⟩
    · unfold rws
      rw [List.pairwise_map]
      refine List.Pairwise.imp ?_ List.pairwise_lt_range
      intro a b hab; dsimp only [rwM]; omega
    · obtain ⟨k, a, b, e⟩ := ha m hm
      have := hb n hn; omega
end Pv
end Go.Proofs.Ytiknpkadlckmjaa
