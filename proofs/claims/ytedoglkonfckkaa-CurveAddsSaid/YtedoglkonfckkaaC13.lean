/- LAW 02: values between two places that follow one another; sums of curves that are made. -/
import Derived.Test.YtedoglkonfckkaaC12
set_option linter.unusedSimpArgs false
set_option linter.unusedVariables false
namespace Go.Proofs.Ytedoglkonfckkaa
namespace Pv

theorem val_mono_le {c : List Pt} (h : GoodC c) (x : Int) : ∀ (d : Nat), valC c x ≤ valC c (x + d)
  | 0 => by rw [Int.natCast_zero, Int.add_zero]; exact Int.le_refl _
  | d + 1 => by
    have h1 := val_mono_le h x d
    have h2 := val_mono h (x + d)
    rw [show x + ((d + 1 : Nat) : Int) = x + d + 1 by omega]; omega
theorem val_le {c : List Pt} (h : GoodC c) {x y : Int} (hxy : x ≤ y) : valC c x ≤ valC c y := by
  have := val_mono_le h x (y - x).toNat
  rwa [show x + (((y - x).toNat : Nat) : Int) = y by omega] at this
theorem val_top {c : List Pt} (h : GoodC c) (x : Int) : valC c x ≤ (c.getD (c.length - 1) default).y := by
  rcases Int.le_total (c.getD (c.length - 1) default).x x with h1 | h1
  · rw [val_hi h h1]; exact Int.le_refl _
  · have := val_le h h1
    rwa [val_hi h (Int.le_refl _)] at this

/-- Between two places with none of the curve's own between them the value is a straight line, rounded down. -/
theorem line_rep {c : List Pt} (h : GoodC c) {x1 x2 v : Int} (h1 : x1 ≤ v) (h2 : v < x2) (hb : ∀ b ∈ xsC c, b ≤ x1 ∨ x2 ≤ b) :
    ∃ D n1 n2 nv : Int, 0 < D ∧ (x2 - x1) * nv = ((x2 - x1) - (v - x1)) * n1 + (v - x1) * n2 ∧
      (D * valC c x1 ≤ n1 ∧ n1 < D * valC c x1 + D) ∧ (D * valC c x2 ≤ n2 ∧ n2 < D * valC c x2 + D) ∧ (D * valC c v ≤ nv ∧ nv < D * valC c v + D) ∧
      (x1 ∈ xsC c → n1 = D * valC c x1) ∧ (x2 ∈ xsC c → n2 = D * valC c x2) := by
  have hn := h.ne
  have mem : ∀ i, i < c.length → (c.getD i default).x ∈ xsC c := fun i hi => (xsC_mem c _).2 ⟨i, hi, rfl⟩
  have const : ∀ y, valC c x1 = y → valC c x2 = y → valC c v = y → ∃ D n1 n2 nv : Int, 0 < D ∧ (x2 - x1) * nv = ((x2 - x1) - (v - x1)) * n1 + (v - x1) * n2 ∧
      (D * valC c x1 ≤ n1 ∧ n1 < D * valC c x1 + D) ∧ (D * valC c x2 ≤ n2 ∧ n2 < D * valC c x2 + D) ∧ (D * valC c v ≤ nv ∧ nv < D * valC c v + D) ∧
      (x1 ∈ xsC c → n1 = D * valC c x1) ∧ (x2 ∈ xsC c → n2 = D * valC c x2) := fun y e1 e2 e3 => by
    refine ⟨1, y, y, y, by omega, by grind, ?_, ?_, ?_, fun _ => ?_, fun _ => ?_⟩ <;> simp only [e1, e2, e3, Int.one_mul] <;> omega
  by_cases c1 : x2 ≤ (c.getD 0 default).x
  · exact const _ (val_lo h (by omega)) (val_lo h (by omega)) (val_lo h (by omega))
  by_cases c2 : (c.getD (c.length - 1) default).x ≤ x1
  · exact const _ (val_hi h (by omega)) (val_hi h (by omega)) (val_hi h (by omega))
  have b0 := hb _ (mem 0 hn)
  have bl := hb _ (mem (c.length - 1) (by omega))
  obtain ⟨k, k1, k2, k3, k4⟩ := find_seg (c := c) (x := x1) (by omega) (c.length - 1) (by omega) (by omega)
  have bk := hb _ (mem k (by omega))
  have hu := h.up k k1 (by omega)
  have hseg : ∀ x, x1 ≤ x → x ≤ x2 → valC c x = ((c.getD (k - 1) default).y * ((c.getD k default).x - (c.getD (k - 1) default).x) + ((c.getD k default).y - (c.getD (k - 1) default).y) * (x - (c.getD (k - 1) default).x)) / ((c.getD k default).x - (c.getD (k - 1) default).x) := fun x a b => by
    rw [val_seg h k1 (by omega) (by omega) (by omega)]
    unfold lineF
    rw [Int.add_comm ((c.getD (k - 1) default).y * _), Int.add_mul_ediv_right _ _ (by omega)]; omega
  have spaced : ∀ b ∈ xsC c, (c.getD (k - 1) default).x < b → (c.getD k default).x ≤ b := fun b hb' hlt => by
    obtain ⟨j, hj, rfl⟩ := (xsC_mem c b).1 hb'
    by_cases hjk : j < k
    · have := h.xs (k - 1 - j) j (by omega)
      rw [show j + (k - 1 - j) = k - 1 by omega] at this; omega
    · have := h.xs (j - k) k (by omega)
      rw [show k + (j - k) = j by omega] at this; omega
  generalize c.getD (k - 1) default = q at *
  generalize c.getD k default = p at *
  have hD : 0 < p.x - q.x := by omega
  have fl : ∀ n : Int, (p.x - q.x) * (n / (p.x - q.x)) ≤ n ∧ n < (p.x - q.x) * (n / (p.x - q.x)) + (p.x - q.x) := fun n => by
    have e := Int.mul_ediv_add_emod n (p.x - q.x)
    have e1 := Int.emod_nonneg n (b := p.x - q.x) (by omega)
    have e2 := Int.emod_lt_of_pos n hD
    omega
  refine ⟨p.x - q.x, q.y * (p.x - q.x) + (p.y - q.y) * (x1 - q.x), q.y * (p.x - q.x) + (p.y - q.y) * (x2 - q.x), q.y * (p.x - q.x) + (p.y - q.y) * (v - q.x), hD, by grind, ?_, ?_, ?_, fun hm => ?_, fun hm => ?_⟩
  · rw [hseg x1 (by omega) (by omega)]; exact fl _
  · rw [hseg x2 (by omega) (by omega)]; exact fl _
  · rw [hseg v (by omega) (by omega)]; exact fl _
  · have e : x1 = q.x := by
      by_cases hlt : q.x < x1
      · have := spaced x1 hm hlt; omega
      · omega
    rw [hseg x1 (by omega) (by omega), e, Int.sub_self, Int.mul_zero, Int.add_zero, Int.mul_ediv_cancel _ (by omega), Int.mul_comm]
  · have e : x2 = p.x := by
      have := spaced x2 hm (by omega); omega
    rw [hseg x2 (by omega) (by omega), e, ← Int.add_mul, Int.mul_ediv_cancel _ (by omega), Int.mul_comm]

theorem sumC_len (a b : List Pt) : (sumC a b).length = (placesC a b).length := by simp [sumC]
theorem sumC_get {a b : List Pt} {i : Nat} (h : i < (placesC a b).length) : (sumC a b).getD i default = ⟨(placesC a b).getD i default, valC a ((placesC a b).getD i default) + valC b ((placesC a b).getD i default)⟩ := by
  unfold sumC
  rw [List.getD_eq_getElem?_getD, List.getD_eq_getElem?_getD, List.getElem?_map, List.getElem?_eq_getElem h]; rfl
theorem places_ne {a : List Pt} (b : List Pt) (h : 0 < a.length) : 0 < (placesC a b).length := by
  have := (places_mem a b _).2 (.inl ((xsC_mem a _).2 ⟨0, h, rfl⟩))
  exact List.length_pos_of_mem this

theorem sum_good {a b : List Pt} (ha : MadeC a) (hb : MadeC b) : GoodC (sumC a b) := by
  have ga := ha.good; have gb := hb.good
  have la := ha.len; have lb := hb.len
  have hinc := places_inc a b
  have hpl := places_len a b
  have h0 : ∀ x ∈ placesC a b, 0 ≤ x ∧ x ≤ 10000 := fun x hx => by
    rcases (places_mem a b x).1 hx with h | h <;> obtain ⟨i, hi, rfl⟩ := (xsC_mem _ _).1 h
    · have := ha.rng i hi; omega
    · have := hb.rng i hi; omega
  have ya := ha.rng (a.length - 1) (by omega)
  have yb := hb.rng (b.length - 1) (by omega)
  have hy : ∀ x, 0 ≤ valC a x + valC b x ∧ valC a x + valC b x ≤ 20000 := fun x => by
    have a1 := val_rng ga x; have b1 := val_rng gb x
    have a2 := val_top ga x; have b2 := val_top gb x
    omega
  refine ⟨by rw [sumC_len]; exact places_ne b (by omega), by rw [sumC_len]; omega, fun i hi => ?_, fun i h1 hi => ?_⟩
  · rw [sumC_len] at hi
    rw [sumC_get hi]
    have x0 := h0 _ (getD_mem hi)
    have y0 := hy ((placesC a b).getD i default)
    dsimp only; omega
  · rw [sumC_len] at hi
    rw [sumC_get hi, sumC_get (by omega)]
    dsimp only
    have hlt := inc_getD hinc (i := i - 1) (j := i) (by omega) hi
    have x0 := h0 _ (getD_mem hi)
    have x1 := h0 _ (getD_mem (l := placesC a b) (i := i - 1) (by omega))
    have y0 := hy ((placesC a b).getD i default)
    have y1 := hy ((placesC a b).getD (i - 1) default)
    have m1 := val_le ga (Int.le_of_lt hlt)
    have m2 := val_le gb (Int.le_of_lt hlt)
    have m3 := Int.add_le_add m1 m2
    clear m1 m2
    generalize valC a ((placesC a b).getD i default) + valC b ((placesC a b).getD i default) = Y at *
    generalize valC a ((placesC a b).getD (i - 1) default) + valC b ((placesC a b).getD (i - 1) default) = Y' at *
    have := mul_rng (a := Y - Y') (b := (placesC a b).getD i default - (placesC a b).getD (i - 1) default) (A := 20000) (B := 10000) (by omega) (by omega) (by omega) (by omega)
    exact ⟨by omega, by omega, by omega⟩

theorem sum_val {a b : List Pt} (ha : MadeC a) (hb : MadeC b) (v : Int) : valC a v + valC b v - 1 ≤ valC (sumC a b) v ∧ valC (sumC a b) v ≤ valC a v + valC b v + 1 := by
  have ga := ha.good; have gb := hb.good
  have gs := sum_good ha hb
  have la := ha.len; have lb := hb.len
  have hinc := places_inc a b
  have hne := places_ne b (show 0 < a.length by omega)
  have hsl := sumC_len a b
  have mema : ∀ i, i < a.length → ∃ j, j < (placesC a b).length ∧ (placesC a b).getD j default = (a.getD i default).x := fun i hi => by
    have := (places_mem a b _).2 (.inl ((xsC_mem a _).2 ⟨i, hi, rfl⟩))
    obtain ⟨j, hj, e⟩ := List.getElem_of_mem this
    exact ⟨j, hj, by rw [List.getD_eq_getElem?_getD, List.getElem?_eq_getElem hj]; exact e⟩
  have memb : ∀ i, i < b.length → ∃ j, j < (placesC a b).length ∧ (placesC a b).getD j default = (b.getD i default).x := fun i hi => by
    have := (places_mem a b _).2 (.inr ((xsC_mem b _).2 ⟨i, hi, rfl⟩))
    obtain ⟨j, hj, e⟩ := List.getElem_of_mem this
    exact ⟨j, hj, by rw [List.getD_eq_getElem?_getD, List.getElem?_eq_getElem hj]; exact e⟩
  have ord : ∀ i j, i ≤ j → j < (placesC a b).length → (placesC a b).getD i default ≤ (placesC a b).getD j default := fun i j hij hj => by
    rcases Nat.lt_or_eq_of_le hij with h | h
    · exact Int.le_of_lt (inc_getD hinc h hj)
    · rw [h]; exact Int.le_refl _
  by_cases c1 : v ≤ (placesC a b).getD 0 default
  · obtain ⟨j, hj, e⟩ := mema 0 (by omega)
    obtain ⟨j', hj', e'⟩ := memb 0 (by omega)
    have o1 := ord 0 j (by omega) hj
    have o2 := ord 0 j' (by omega) hj'
    have hs : valC (sumC a b) v = ((sumC a b).getD 0 default).y := val_lo gs (by rw [sumC_get hne]; exact c1)
    rw [hs, sumC_get hne]
    dsimp only
    rw [val_lo ga (x := v) (by omega), val_lo gb (x := v) (by omega), val_lo ga (x := (placesC a b).getD 0 default) (by omega), val_lo gb (x := (placesC a b).getD 0 default) (by omega)]
    omega
  by_cases c2 : (placesC a b).getD ((placesC a b).length - 1) default ≤ v
  · obtain ⟨j, hj, e⟩ := mema (a.length - 1) (by omega)
    obtain ⟨j', hj', e'⟩ := memb (b.length - 1) (by omega)
    have o1 := ord j ((placesC a b).length - 1) (by omega) (by omega)
    have o2 := ord j' ((placesC a b).length - 1) (by omega) (by omega)
    have hs : valC (sumC a b) v = ((sumC a b).getD ((sumC a b).length - 1) default).y := val_hi gs (by rw [hsl, sumC_get (by omega)]; exact c2)
    rw [hs, hsl, sumC_get (by omega)]
    dsimp only
    rw [val_hi ga (x := v) (by omega), val_hi gb (x := v) (by omega), val_hi ga (x := (placesC a b).getD ((placesC a b).length - 1) default) (by omega), val_hi gb (x := (placesC a b).getD ((placesC a b).length - 1) default) (by omega)]
    omega
  obtain ⟨k, k1, k2, k3, k4⟩ := find_seg (c := sumC a b) (x := v) (by rw [sumC_get hne]; dsimp only; omega) ((sumC a b).length - 1) (by omega) (by rw [hsl, sumC_get (by omega)]; dsimp only; omega)
  have hval := val_seg gs k1 (by omega) k3 (Int.le_of_lt k4)
  rw [hval]
  rw [sumC_get (show k - 1 < _ by omega)] at k3 ⊢
  rw [sumC_get (show k < _ by omega)] at k4 ⊢
  dsimp only at k3 k4
  have between : ∀ x ∈ placesC a b, x ≤ (placesC a b).getD (k - 1) default ∨ (placesC a b).getD k default ≤ x := fun x hx => by
    obtain ⟨j, hj, e⟩ := List.getElem_of_mem hx
    have e' : (placesC a b).getD j default = x := by rw [List.getD_eq_getElem?_getD, List.getElem?_eq_getElem hj]; exact e
    rw [← e']
    by_cases h : j < k
    · exact .inl (ord j (k - 1) (by omega) (by omega))
    · exact .inr (ord k j (by omega) hj)
  have m1 := (places_mem a b _).1 (getD_mem (l := placesC a b) (i := k - 1) (by omega))
  have m2 := (places_mem a b _).1 (getD_mem (l := placesC a b) (i := k) (by omega))
  obtain ⟨D, n1, n2, nv, hD, ln, p1, p2, pv, e1, e2⟩ := line_rep ga k3 k4 (fun x hx => between x ((places_mem a b x).2 (.inl hx)))
  obtain ⟨E, o1, o2, ov, hE, lm, q1, q2, qv, g1, g2⟩ := line_rep gb k3 k4 (fun x hx => between x ((places_mem a b x).2 (.inr hx)))
  generalize (placesC a b).getD (k - 1) default = x1 at *
  generalize (placesC a b).getD k default = x2 at *
  unfold lineF
  dsimp only
  have hdx : 0 < x2 - x1 := by omega
  have f1 := Int.mul_ediv_add_emod ((valC a x2 + valC b x2 - (valC a x1 + valC b x1)) * (v - x1)) (x2 - x1)
  have f2 := Int.emod_nonneg ((valC a x2 + valC b x2 - (valC a x1 + valC b x1)) * (v - x1)) (b := x2 - x1) (by omega)
  have f3 := Int.emod_lt_of_pos ((valC a x2 + valC b x2 - (valC a x1 + valC b x1)) * (v - x1)) hdx
  have f4 : (x2 - x1) * (valC a x1 + valC b x1 + (valC a x2 + valC b x2 - (valC a x1 + valC b x1)) * (v - x1) / (x2 - x1)) = (x2 - x1) * (valC a x1 + valC b x1) + (x2 - x1) * ((valC a x2 + valC b x2 - (valC a x1 + valC b x1)) * (v - x1) / (x2 - x1)) := Int.mul_add ..
  have f5 := Int.mul_comm (v - x1) (valC a x2 + valC b x2 - (valC a x1 + valC b x1))
  refine sum_math (t := v - x1) (dx := x2 - x1) (by omega) (by omega) hD hE ln lm p1 p2 pv q1 q2 qv (m1.imp e1 g1) (m2.imp e2 g2) ?_
  rw [f4, f5]
  omega
end Pv
end Go.Proofs.Ytedoglkonfckkaa
