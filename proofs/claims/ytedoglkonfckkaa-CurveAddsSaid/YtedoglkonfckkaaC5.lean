/- LAW 02: plain laws of curves. -/
import Derived.Test.YtedoglkonfckkaaC4
set_option linter.unusedSimpArgs false
set_option linter.unusedVariables false
namespace Go.Proofs.Ytedoglkonfckkaa
namespace Pv

/-! ### numbers -/
theorem up_math {m dx dy : Int} (hdx : 0 < dx) (hm : 0 < m) (hd : m ≤ dy) : 1 ≤ (m * dx + dy - 1) / dy ∧ (m * dx + dy - 1) / dy ≤ dx ∧ m ≤ (dy * ((m * dx + dy - 1) / dy)) / dx ∧ (dy * ((m * dx + dy - 1) / dy - 1)) / dx < m := by
  have h0 : 0 < dy := by omega
  have e := Int.mul_ediv_add_emod (m * dx + dy - 1) dy
  have e1 := Int.emod_nonneg (m * dx + dy - 1) (b := dy) (by omega)
  have e2 := Int.emod_lt_of_pos (m * dx + dy - 1) h0
  generalize (m * dx + dy - 1) / dy = t at e ⊢
  generalize (m * dx + dy - 1) % dy = r at e e1 e2
  have p1 : 0 < m * dx := Int.mul_pos hm hdx
  have p2 : m * dx ≤ dy * dx := Int.mul_le_mul_of_nonneg_right hd (by omega)
  have t1 : 1 ≤ t := by
    rcases Int.lt_or_le t 1 with h | h
    · have : dy * t ≤ dy * 0 := Int.mul_le_mul_of_nonneg_left (by omega) (by omega)
      rw [Int.mul_zero] at this; omega
    · exact h
  have t2 : t ≤ dx := by
    rcases Int.lt_or_le dx t with h | h
    · have : dy * (dx + 1) ≤ dy * t := Int.mul_le_mul_of_nonneg_left (by omega) (by omega)
      rw [Int.mul_add, Int.mul_one] at this; omega
    · exact h
  refine ⟨t1, t2, ?_, ?_⟩
  · rw [Int.le_ediv_iff_mul_le hdx]; omega
  · rw [Int.ediv_lt_iff_lt_mul hdx, Int.mul_sub, Int.mul_one]; omega

theorem down_math {m dx dy : Int} (hdx : 0 < dx) (hm : 0 < m) (hd : m ≤ dy) : 0 ≤ (m * dx - 1) / dy ∧ (m * dx - 1) / dy < dx ∧ (dy * ((m * dx - 1) / dy)) / dx < m ∧ m ≤ (dy * ((m * dx - 1) / dy + 1)) / dx := by
  have h0 : 0 < dy := by omega
  have e := Int.mul_ediv_add_emod (m * dx - 1) dy
  have e1 := Int.emod_nonneg (m * dx - 1) (b := dy) (by omega)
  have e2 := Int.emod_lt_of_pos (m * dx - 1) h0
  have p1 : 0 < m * dx := Int.mul_pos hm hdx
  have t1 : 0 ≤ (m * dx - 1) / dy := Int.ediv_nonneg (by omega) (by omega)
  generalize (m * dx - 1) / dy = t at e t1 ⊢
  generalize (m * dx - 1) % dy = r at e e1 e2
  have p2 : m * dx ≤ dy * dx := Int.mul_le_mul_of_nonneg_right hd (by omega)
  have t2 : t < dx := by
    rcases Int.lt_or_le t dx with h | h
    · exact h
    · have : dy * dx ≤ dy * t := Int.mul_le_mul_of_nonneg_left (by omega) (by omega)
      omega
  refine ⟨t1, t2, ?_, ?_⟩
  · rw [Int.ediv_lt_iff_lt_mul hdx]; omega
  · rw [Int.le_ediv_iff_mul_le hdx, Int.mul_add, Int.mul_one]; omega

/-! ### values -/
theorem GoodC.xs {c : List Pt} (h : GoodC c) : ∀ (d i : Nat), i + d < c.length → (c.getD i default).x ≤ (c.getD (i + d) default).x
  | 0, i, _ => Int.le_refl _
  | d + 1, i, hi => by
    have h1 := GoodC.xs h d i (by omega)
    have h2 := h.up (i + d + 1) (by omega) hi
    rw [Nat.add_sub_cancel] at h2
    rw [show i + (d + 1) = i + d + 1 from rfl]; omega
theorem GoodC.ys {c : List Pt} (h : GoodC c) : ∀ (d i : Nat), i + d < c.length → (c.getD i default).y ≤ (c.getD (i + d) default).y
  | 0, i, _ => Int.le_refl _
  | d + 1, i, hi => by
    have h1 := GoodC.ys h d i (by omega)
    have h2 := h.up (i + d + 1) (by omega) hi
    rw [Nat.add_sub_cancel] at h2
    rw [show i + (d + 1) = i + d + 1 from rfl]; omega

theorem valA_skip {c : List Pt} {x : Int} : ∀ (m i : Nat), i + m ≤ c.length → (∀ j, i ≤ j → j < i + m → (c.getD j default).x < x) → valA c x i (c.length - i) = valA c x (i + m) (c.length - (i + m))
  | 0, i, _, _ => rfl
  | m + 1, i, hi, h => by
    have h1 := h i (by omega) (by omega)
    have e : valA c x i (c.length - i) = valA c x (i + 1) (c.length - (i + 1)) := by
      rw [show c.length - i = (c.length - (i + 1)) + 1 by omega]
      show (if x ≤ (c.getD i default).x then _ else _) = _
      rw [if_neg (by omega)]
    rw [e, valA_skip m (i + 1) (by omega) (fun j h1 h2 => h j (by omega) (by omega))]
    rw [show i + 1 + m = i + (m + 1) by omega]

theorem val_lo {c : List Pt} (h : GoodC c) {x : Int} (hx : x ≤ (c.getD 0 default).x) : valC c x = (c.getD 0 default).y := by
  have := h.ne
  unfold valC
  rw [show c.length = (c.length - 1) + 1 by omega]
  show (if x ≤ (c.getD 0 default).x then _ else _) = _
  rw [if_pos hx]; rfl
theorem val_seg' {c : List Pt} (h : GoodC c) {x : Int} {k : Nat} (h0 : 0 < k) (hk : k < c.length) (h1 : (c.getD (k - 1) default).x < x) (h2 : x ≤ (c.getD k default).x) : valC c x = lineF (c.getD k default) (c.getD (k - 1) default) x := by
  unfold valC
  have := valA_skip (c := c) (x := x) k 0 (by omega) (fun j _ hj => by
    have := h.xs (k - 1 - j) j (by omega)
    rw [show j + (k - 1 - j) = k - 1 by omega] at this; omega)
  rw [Nat.sub_zero, Nat.zero_add] at this
  rw [this, show c.length - k = (c.length - (k + 1)) + 1 by omega]
  show (if x ≤ (c.getD k default).x then (if k = 0 then _ else _) else _) = _
  rw [if_pos h2, if_neg (by omega)]
theorem line_lo (p q : Pt) : lineF p q q.x = q.y := by unfold lineF; rw [Int.sub_self, Int.mul_zero, Int.zero_ediv, Int.add_zero]
theorem line_hi {p q : Pt} (h : q.x < p.x) : lineF p q p.x = p.y := by
  unfold lineF; rw [Int.mul_ediv_cancel _ (by omega)]; omega
theorem val_seg {c : List Pt} (h : GoodC c) {x : Int} {k : Nat} (h0 : 0 < k) (hk : k < c.length) (h1 : (c.getD (k - 1) default).x ≤ x) (h2 : x ≤ (c.getD k default).x) : valC c x = lineF (c.getD k default) (c.getD (k - 1) default) x := by
  rcases Int.lt_or_eq_of_le h1 with h1 | h1
  · exact val_seg' h h0 hk h1 h2
  · rw [← h1, line_lo]
    by_cases hk1 : k - 1 = 0
    · rw [hk1]; exact val_lo h (Int.le_refl _)
    · have hu := h.up (k - 1) (by omega) (by omega)
      rw [val_seg' h (k := k - 1) (by omega) (by omega) hu.1 (Int.le_refl _), line_hi hu.1]
theorem val_hi {c : List Pt} (h : GoodC c) {x : Int} (hx : (c.getD (c.length - 1) default).x ≤ x) : valC c x = (c.getD (c.length - 1) default).y := by
  have hn := h.ne
  rcases Int.lt_or_eq_of_le hx with h1 | h1
  · unfold valC
    have := valA_skip (c := c) (x := x) c.length 0 (by omega) (fun j _ hj => by
      have := h.xs (c.length - 1 - j) j (by omega)
      rw [show j + (c.length - 1 - j) = c.length - 1 by omega] at this; omega)
    rw [Nat.sub_zero, Nat.zero_add, Nat.sub_self] at this
    rw [this]; rfl
  · rw [← h1]
    by_cases hk1 : c.length - 1 = 0
    · rw [hk1]; exact val_lo h (Int.le_refl _)
    · have hu := h.up (c.length - 1) (by omega) (by omega)
      rw [val_seg' h (k := c.length - 1) (by omega) (by omega) hu.1 (Int.le_refl _), line_hi hu.1]

theorem find_seg {c : List Pt} {x : Int} (h0 : (c.getD 0 default).x ≤ x) : ∀ n, n < c.length → x < (c.getD n default).x → ∃ k, 0 < k ∧ k ≤ n ∧ (c.getD (k - 1) default).x ≤ x ∧ x < (c.getD k default).x
  | 0, _, h => by omega
  | n + 1, hn, h => by
    by_cases hh : x < (c.getD n default).x
    · obtain ⟨k, a, b, c, d⟩ := find_seg h0 n (by omega) hh
      exact ⟨k, a, by omega, c, d⟩
    · exact ⟨n + 1, by omega, Nat.le_refl _, by rw [Nat.add_sub_cancel]; omega, h⟩

theorem line_mono {p q : Pt} (h : q.x < p.x) (hy : q.y ≤ p.y) {x x' : Int} (hx : x ≤ x') : lineF p q x ≤ lineF p q x' := by
  unfold lineF
  have : (p.y - q.y) * (x - q.x) ≤ (p.y - q.y) * (x' - q.x) := Int.mul_le_mul_of_nonneg_left (by omega) (by omega)
  have := Int.ediv_le_ediv (c := p.x - q.x) (by omega) this
  omega

theorem val_mono {c : List Pt} (h : GoodC c) (x : Int) : valC c x ≤ valC c (x + 1) := by
  have hn := h.ne
  by_cases h1 : x < (c.getD 0 default).x
  · rw [val_lo h (by omega), val_lo h (by omega)]; exact Int.le_refl _
  by_cases h2 : (c.getD (c.length - 1) default).x ≤ x
  · rw [val_hi h h2, val_hi h (by omega)]; exact Int.le_refl _
  obtain ⟨k, a, b, h3, h4⟩ := find_seg (c := c) (x := x) (by omega) (c.length - 1) (by omega) (by omega)
  have hu := h.up k a (by omega)
  rw [val_seg h a (by omega) h3 (by omega), val_seg h a (by omega) (by omega) (by omega)]
  exact line_mono hu.1 hu.2.1 (by omega)

/-! ### where values are reached -/
def FirstOk (c : List Pt) (y : Int) (r : Int × Bool) : Prop :=
  (r.2 = true → y ≤ valC c r.1 ∧ (c.getD 0 default).x ≤ r.1 ∧ r.1 ≤ (c.getD (c.length - 1) default).x ∧ ((c.getD 0 default).x < r.1 → valC c (r.1 - 1) < y)) ∧ (r.2 = false → (c.getD (c.length - 1) default).y < y)
theorem firstA_ok {c : List Pt} (h : GoodC c) {y : Int} : ∀ (n i : Nat), i + n = c.length - 1 → (c.getD i default).y < y → FirstOk c y (firstA c y i n)
  | 0, i, hi, hy => by
    refine ⟨fun h => (by cases h), fun _ => ?_⟩
    rw [← hi]; exact hy
  | n + 1, i, hi, hy => by
    show FirstOk c y (if y ≤ (c.getD (i + 1) default).y then _ else _)
    by_cases hh : y ≤ (c.getD (i + 1) default).y
    · rw [if_pos hh]
      have hu := h.up (i + 1) (by omega) (by omega)
      rw [Nat.add_sub_cancel] at hu
      have hx0 := h.xs i 0 (by omega)
      have hx1 := h.xs (c.length - 1 - (i + 1)) (i + 1) (by omega)
      rw [Nat.zero_add] at hx0
      rw [show i + 1 + (c.length - 1 - (i + 1)) = c.length - 1 by omega] at hx1
      obtain ⟨m1, m2, m3, m4⟩ := up_math (m := y - (c.getD i default).y) (dx := (c.getD (i + 1) default).x - (c.getD i default).x) (dy := (c.getD (i + 1) default).y - (c.getD i default).y) (by omega) (by omega) (by omega)
      refine ⟨fun _ => ?_, fun h => (by cases h)⟩
      dsimp only [upF]
      generalize ((y - (c.getD i default).y) * ((c.getD (i + 1) default).x - (c.getD i default).x) + ((c.getD (i + 1) default).y - (c.getD i default).y) - 1) / ((c.getD (i + 1) default).y - (c.getD i default).y) = t at m1 m2 m3 m4
      refine ⟨?_, by omega, by omega, fun _ => ?_⟩
      · rw [val_seg h (k := i + 1) (by omega) (by omega) (by rw [Nat.add_sub_cancel]; omega) (by omega)]
        rw [Nat.add_sub_cancel]
        unfold lineF
        rw [show (c.getD i default).x + t - (c.getD i default).x = t by omega]; omega
      · rw [val_seg h (k := i + 1) (by omega) (by omega) (by rw [Nat.add_sub_cancel]; omega) (by omega)]
        rw [Nat.add_sub_cancel]
        unfold lineF
        rw [show (c.getD i default).x + t - 1 - (c.getD i default).x = t - 1 by omega]; omega
    · rw [if_neg hh]
      exact firstA_ok h n (i + 1) (by omega) (by omega)
theorem first_ok {c : List Pt} (h : GoodC c) (y : Int) : FirstOk c y (firstC c y) := by
  have hn := h.ne
  unfold firstC
  by_cases hy : y ≤ (c.getD 0 default).y
  · rw [if_pos hy]
    have hx := h.xs (c.length - 1) 0 (by omega)
    rw [Nat.zero_add] at hx
    exact ⟨fun _ => ⟨by rw [val_lo h (Int.le_refl _)]; exact hy, Int.le_refl _, hx, fun h => by dsimp only at h; omega⟩, fun h => (by cases h)⟩
  · rw [if_neg hy]
    exact firstA_ok h (c.length - 1) 0 (by omega) (by omega)

def LastOk (c : List Pt) (y : Int) (r : Int × Bool) : Prop :=
  (r.2 = true → valC c r.1 ≤ y ∧ (c.getD 0 default).x ≤ r.1 ∧ r.1 ≤ (c.getD (c.length - 1) default).x ∧ (r.1 < (c.getD (c.length - 1) default).x → y < valC c (r.1 + 1))) ∧ (r.2 = false → y < (c.getD 0 default).y)
theorem lastA_ok {c : List Pt} (h : GoodC c) {y : Int} : ∀ (n i : Nat), i + n = c.length - 1 → (c.getD i default).y ≤ y → LastOk c y (lastA c y i n)
  | 0, i, hi, hy => by
    have hn := h.ne
    have hx := h.xs (c.length - 1) 0 (by omega)
    rw [Nat.zero_add] at hx
    refine ⟨fun _ => ?_, fun h => (by cases h)⟩
    dsimp only [lastA]
    exact ⟨by rw [val_hi h (Int.le_refl _), ← hi]; exact hy, hx, Int.le_refl _, fun h => by omega⟩
  | n + 1, i, hi, hy => by
    show LastOk c y (if y < (c.getD (i + 1) default).y then _ else _)
    by_cases hh : y < (c.getD (i + 1) default).y
    · rw [if_pos hh]
      have hu := h.up (i + 1) (by omega) (by omega)
      rw [Nat.add_sub_cancel] at hu
      have hx0 := h.xs i 0 (by omega)
      have hx1 := h.xs (c.length - 1 - (i + 1)) (i + 1) (by omega)
      rw [Nat.zero_add] at hx0
      rw [show i + 1 + (c.length - 1 - (i + 1)) = c.length - 1 by omega] at hx1
      obtain ⟨m1, m2, m3, m4⟩ := down_math (m := y - (c.getD i default).y + 1) (dx := (c.getD (i + 1) default).x - (c.getD i default).x) (dy := (c.getD (i + 1) default).y - (c.getD i default).y) (by omega) (by omega) (by omega)
      refine ⟨fun _ => ?_, fun h => (by cases h)⟩
      dsimp only [downF]
      generalize ((y - (c.getD i default).y + 1) * ((c.getD (i + 1) default).x - (c.getD i default).x) - 1) / ((c.getD (i + 1) default).y - (c.getD i default).y) = t at m1 m2 m3 m4
      refine ⟨?_, by omega, by omega, fun _ => ?_⟩
      · rw [val_seg h (k := i + 1) (by omega) (by omega) (by rw [Nat.add_sub_cancel]; omega) (by omega)]
        rw [Nat.add_sub_cancel]
        unfold lineF
        rw [show (c.getD i default).x + t - (c.getD i default).x = t by omega]; omega
      · rw [val_seg h (k := i + 1) (by omega) (by omega) (by rw [Nat.add_sub_cancel]; omega) (by omega)]
        rw [Nat.add_sub_cancel]
        unfold lineF
        rw [show (c.getD i default).x + t + 1 - (c.getD i default).x = t + 1 by omega]; omega
    · rw [if_neg hh]
      exact lastA_ok h n (i + 1) (by omega) (by omega)
theorem last_ok {c : List Pt} (h : GoodC c) (y : Int) : LastOk c y (lastC c y) := by
  have hn := h.ne
  unfold lastC
  by_cases hy : y < (c.getD 0 default).y
  · rw [if_pos hy]
    exact ⟨fun h => (by cases h), fun _ => hy⟩
  · rw [if_neg hy]
    exact lastA_ok h (c.length - 1) 0 (by omega) (by omega)

/-! ### curves that are made -/
structure MadeC (c : List Pt) : Prop where
  len : 2 ≤ c.length ∧ c.length ≤ 5
  rng : ∀ i, i < c.length → 0 ≤ (c.getD i default).x ∧ (c.getD i default).x ≤ 1000 + 1001 * i ∧ 0 ≤ (c.getD i default).y ∧ (c.getD i default).y ≤ 1000 + 1001 * i
  up : ∀ i, 0 < i → i < c.length → (c.getD (i - 1) default).x < (c.getD i default).x ∧ (c.getD i default).x ≤ (c.getD (i - 1) default).x + 1001 ∧ (c.getD (i - 1) default).y ≤ (c.getD i default).y ∧ (c.getD i default).y ≤ (c.getD (i - 1) default).y + 1001
theorem MadeC.good {c : List Pt} (h : MadeC c) : GoodC c := by
  obtain ⟨⟨l1, l2⟩, h1, h2⟩ := h
  refine ⟨by omega, by omega, fun i hi => by have := h1 i hi; omega, fun i h0 hi => ?_⟩
  have h3 := h2 i h0 hi
  have := mul_rng (a := (c.getD i default).y - (c.getD (i - 1) default).y) (b := (c.getD i default).x - (c.getD (i - 1) default).x) (A := 1001) (B := 1001) (by omega) (by omega) (by omega) (by omega)
  exact ⟨by omega, by omega, by omega⟩

theorem getD_push {α : Type} [Inhabited α] (l : List α) (p : α) (i : Nat) : (l ++ [p]).getD i default = if i < l.length then l.getD i default else if i = l.length then p else default := by
  by_cases h : i < l.length
  · rw [if_pos h, List.getD_eq_getElem?_getD, List.getD_eq_getElem?_getD, List.getElem?_append_left h]
  · rw [if_neg h]
    by_cases h2 : i = l.length
    · rw [if_pos h2, h2, List.getD_eq_getElem?_getD, List.getElem?_append_right (Nat.le_refl _)]; simp
    · rw [if_neg h2, List.getD_eq_getElem?_getD, List.getElem?_eq_none (by simp; omega)]; rfl

def CInv (s : Cst) : Prop := 1 ≤ s.L.length ∧ s.L.getD (s.L.length - 1) default = ⟨s.x, s.y⟩ ∧
  (∀ i, i < s.L.length → 0 ≤ (s.L.getD i default).x ∧ (s.L.getD i default).x ≤ 1000 + 1001 * i ∧ 0 ≤ (s.L.getD i default).y ∧ (s.L.getD i default).y ≤ 1000 + 1001 * i) ∧
  (∀ i, 0 < i → i < s.L.length → (s.L.getD (i - 1) default).x < (s.L.getD i default).x ∧ (s.L.getD i default).x ≤ (s.L.getD (i - 1) default).x + 1001 ∧ (s.L.getD (i - 1) default).y ≤ (s.L.getD i default).y ∧ (s.L.getD i default).y ≤ (s.L.getD (i - 1) default).y + 1001)
theorem crvN_inv {dx dy least : Int} (hdx : 1 ≤ dx ∧ dx ≤ 1000) (hdy : 1 ≤ dy ∧ dy ≤ 1000) (hl : 0 ≤ least ∧ least ≤ 1) {s : Cst} (h : CInv s) : CInv (crvN dx dy least s) := by
  obtain ⟨h1, h2, h3, h4⟩ := h
  have r1 := nxt_lt s.d (n := dx) (by omega)
  have r2 := nxt_lt (nxtD s.d dx) (n := dy) (by omega)
  have hlast := h3 (s.L.length - 1) (by omega)
  rw [h2] at hlast
  dsimp only at hlast
  have hlen : (crvN dx dy least s).L.length = s.L.length + 1 := by simp [crvN]
  have hget : ∀ i, (crvN dx dy least s).L.getD i default = if i < s.L.length then s.L.getD i default else if i = s.L.length then ⟨s.x + 1 + nxt s.d dx, s.y + least + nxt (nxtD s.d dx) dy⟩ else default := fun i => getD_push _ _ _
  refine ⟨by omega, ?_, ?_, ?_⟩
  · rw [hget, hlen, Nat.add_sub_cancel, if_neg (by omega), if_pos rfl]; rfl
  · intro i hi
    rw [hlen] at hi
    rw [hget]
    by_cases hh : i < s.L.length
    · rw [if_pos hh]; exact h3 i hh
    · rw [if_neg hh, if_pos (by omega)]; dsimp only; omega
  · intro i h0 hi
    rw [hlen] at hi
    rw [hget, hget]
    by_cases hh : i < s.L.length
    · rw [if_pos hh, if_pos (by omega)]; exact h4 i h0 hh
    · rw [if_neg hh, if_pos (by omega), if_pos (by omega), show i - 1 = s.L.length - 1 by omega, h2]; dsimp only; omega
theorem crvS_inv {dx dy least : Int} (hdx : 1 ≤ dx ∧ dx ≤ 1000) (hdy : 1 ≤ dy ∧ dy ≤ 1000) (hl : 0 ≤ least ∧ least ≤ 1) : ∀ (k : Nat) {s : Cst}, CInv s → CInv (crvS dx dy least k s) ∧ (crvS dx dy least k s).L.length = s.L.length + k ∧ (crvS dx dy least k s).d.at_ ≤ s.d.at_ + 2 * k
  | 0, s, h => ⟨h, rfl, Nat.le_refl _⟩
  | k + 1, s, h => by
    obtain ⟨a, b, c⟩ := crvS_inv hdx hdy hl k (crvN_inv hdx hdy hl h)
    have hlen : (crvN dx dy least s).L.length = s.L.length + 1 := by simp [crvN]
    have h1 := nxtD_at s.d dx
    have h2 := nxtD_at (nxtD s.d dx) dy
    have hd : (crvN dx dy least s).d = nxtD (nxtD s.d dx) dy := rfl
    rw [hd] at c
    exact ⟨a, by show (crvS dx dy least k _).L.length = _; omega, by show (crvS dx dy least k _).d.at_ ≤ _; omega⟩
theorem curve_made (d : Dk) {x y dx dy least : Int} (hx : 0 ≤ x ∧ x ≤ 1000) (hy : 0 ≤ y ∧ y ≤ 1000) (hdx : 1 ≤ dx ∧ dx ≤ 1000) (hdy : 1 ≤ dy ∧ dy ≤ 1000) (hl : 0 ≤ least ∧ least ≤ 1) : MadeC (curveS d x y dx dy least).L ∧ (curveS d x y dx dy least).d.at_ ≤ d.at_ + 9 := by
  have r1 := nxt_lt d (n := 4) (by omega)
  have a1 := nxtD_at d 4
  have h0 : CInv ⟨[⟨x, y⟩], x, y, nxtD d 4⟩ := by
    refine ⟨Nat.le_refl _, rfl, ?_, ?_⟩
    · intro i hi
      have : i = 0 := by simpa using hi
      subst this
      show 0 ≤ x ∧ _ ∧ 0 ≤ y ∧ _
      exact ⟨by omega, by show x ≤ _; omega, by omega, by show y ≤ _; omega⟩
    · intro i h0 hi
      have : i < 1 := by simpa using hi
      omega
  obtain ⟨⟨b1, b2, b3, b4⟩, b5, b6⟩ := crvS_inv hdx hdy hl (1 + nxt d 4).toNat h0
  have e : (1 : Nat) = ([⟨x, y⟩] : List Pt).length := rfl
  dsimp only at b6
  refine ⟨⟨?_, b3, b4⟩, ?_⟩
  · show 2 ≤ (crvS dx dy least _ _).L.length ∧ (crvS dx dy least _ _).L.length ≤ 5
    rw [b5, ← e]; omega
  · show (crvS dx dy least _ _).d.at_ ≤ _; omega
end Pv
end Go.Proofs.Ytedoglkonfckkaa
