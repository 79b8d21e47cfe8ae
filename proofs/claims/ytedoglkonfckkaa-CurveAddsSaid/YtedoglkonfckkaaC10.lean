/- LAW 02: plain laws of places. -/
import Derived.Test.YtedoglkonfckkaaC9
set_option linter.unusedSimpArgs false
set_option linter.unusedVariables false
namespace Go.Proofs.Ytedoglkonfckkaa
namespace Pv

theorem srt_sorted (l : List Int) : (srt l).Pairwise (· ≤ ·) := by
  have := List.pairwise_mergeSort (le := fun x y : Int => decide (x ≤ y)) (fun a b c h1 h2 => by simp at *; omega) (fun a b => by simp; omega) l
  exact this.imp fun h => by simpa using h
theorem srt_mem (l : List Int) (x : Int) : x ∈ srt l ↔ x ∈ l := List.mem_mergeSort
theorem compact_inc (l : List Int) (h : l.Pairwise (· ≤ ·)) : (Lib.compact l).Pairwise (· < ·) := by
  unfold Lib.compact Lib.compactUpTo
  rw [List.pairwise_map]
  have hr : (List.range l.length).Pairwise (· < ·) := List.pairwise_lt_range
  have hf := hr.filter (Lib.keeps l.toArray)
  refine List.Pairwise.imp_of_mem ?_ hf
  intro i j hi hj hij
  rw [List.mem_filter, List.mem_range] at hi hj
  have hk := hj.2
  have hget : ∀ k, k < l.length → l.toArray[k]! = l.getD k default := fun k hk => by simp [hk]
  have hle : ∀ p q, p < q → q < l.length → l.getD p default ≤ l.getD q default := fun p q hp hq => by
    have := List.pairwise_iff_getElem.1 h p q (by omega) hq hp
    rw [List.getD_eq_getElem?_getD, List.getD_eq_getElem?_getD, List.getElem?_eq_getElem hq, List.getElem?_eq_getElem (by omega)]; exact this
  unfold Lib.keeps at hk
  rw [hget i hi.1, hget j hj.1]
  have h2 : l.getD (j - 1) default ≤ l.getD j default := hle (j - 1) j (by omega) hj.1
  have h3 : l.getD i default ≤ l.getD (j - 1) default := by
    by_cases e : i = j - 1
    · rw [e]; exact Int.le_refl _
    · exact hle i (j - 1) (by omega) (by omega)
  rw [hget j hj.1, hget (j - 1) (by omega)] at hk
  have hne : l.getD j default ≠ l.getD (j - 1) default := by
    rcases of_decide_eq_true hk with h0 | h0
    · omega
    · exact h0
  omega
theorem compact_mem (l : List Int) (x : Int) : x ∈ Lib.compact l ↔ x ∈ l := by
  have hget : ∀ k, k < l.length → l.toArray[k]! = l.getD k default := fun k hk => by simp [hk]
  unfold Lib.compact Lib.compactUpTo
  rw [List.mem_map]
  constructor
  · rintro ⟨j, hj, rfl⟩
    rw [List.mem_filter, List.mem_range] at hj
    rw [hget j hj.1]; exact getD_mem hj.1
  · intro hx
    obtain ⟨i, hi, rfl⟩ := List.getElem_of_mem hx
    have key : ∀ i, i < l.length → ∃ j, j < l.length ∧ Lib.keeps l.toArray j = true ∧ l.getD j default = l.getD i default := by
      intro i
      induction i with
      | zero => intro hi; exact ⟨0, hi, by simp [Lib.keeps], rfl⟩
      | succ i ih =>
        intro hi
        cases hk : Lib.keeps l.toArray (i + 1) with
        | true => exact ⟨i + 1, hi, hk, rfl⟩
        | false =>
          unfold Lib.keeps at hk
          have h1 := of_decide_eq_false hk
          rw [hget _ hi, hget (i + 1 - 1) (by omega)] at h1
          obtain ⟨j, h2, h3, h4⟩ := ih (by omega)
          refine ⟨j, h2, h3, ?_⟩
          rw [h4]
          rw [Nat.add_sub_cancel] at h1
          by_cases e : l.getD (i + 1) default = l.getD i default
          · exact e.symm
          · exact absurd (.inr e) h1
    obtain ⟨j, h2, h3, h4⟩ := key i hi
    refine ⟨j, by rw [List.mem_filter, List.mem_range]; exact ⟨h2, h3⟩, ?_⟩
    rw [hget j h2, h4, List.getD_eq_getElem?_getD, List.getElem?_eq_getElem hi]; rfl
/-- Two ascending lists of the same numbers are the same. -/
theorem inc_ext : ∀ (l m : List Int), l.Pairwise (· < ·) → m.Pairwise (· < ·) → (∀ x, x ∈ l ↔ x ∈ m) → l = m
  | [], [], _, _, _ => rfl
  | [], b :: m, _, _, h => by have := (h b).2 (by simp); cases this
  | a :: l, [], _, _, h => by have := (h a).1 (by simp); cases this
  | a :: l, b :: m, hl, hm, h => by
    obtain ⟨hl1, hl2⟩ := List.pairwise_cons.1 hl
    obtain ⟨hm1, hm2⟩ := List.pairwise_cons.1 hm
    have hab : a = b := by
      have h1 : a = b ∨ a ∈ m := by simpa using (h a).1 (by simp)
      have h2 : b = a ∨ b ∈ l := by simpa using (h b).2 (by simp)
      rcases h1 with h1 | h1
      · exact h1
      rcases h2 with h2 | h2
      · exact h2.symm
      have := hm1 a h1
      have := hl1 b h2
      omega
    subst hab
    congr 1
    refine inc_ext l m hl2 hm2 fun x => ?_
    constructor
    · intro hx
      have h1 : x = a ∨ x ∈ m := by simpa using (h x).1 (by simp [hx])
      rcases h1 with h1 | h1
      · have := hl1 x hx; omega
      · exact h1
    · intro hx
      have h1 : x = a ∨ x ∈ l := by simpa using (h x).2 (by simp [hx])
      rcases h1 with h1 | h1
      · have := hm1 x hx; omega
      · exact h1

theorem places_inc (a b : List Pt) : (placesC a b).Pairwise (· < ·) := compact_inc _ (srt_sorted _)
theorem places_mem (a b : List Pt) (x : Int) : x ∈ placesC a b ↔ x ∈ xsC a ∨ x ∈ xsC b := by
  unfold placesC; rw [compact_mem, srt_mem, List.mem_append]
theorem xsC_mem (c : List Pt) (x : Int) : x ∈ xsC c ↔ ∃ i, i < c.length ∧ (c.getD i default).x = x := by
  unfold xsC
  rw [List.mem_map]
  constructor
  · rintro ⟨p, hp, rfl⟩
    obtain ⟨i, hi, rfl⟩ := List.getElem_of_mem hp
    exact ⟨i, hi, by rw [List.getD_eq_getElem?_getD, List.getElem?_eq_getElem hi]; rfl⟩
  · rintro ⟨i, hi, rfl⟩
    exact ⟨_, getD_mem hi, rfl⟩
theorem places_len (a b : List Pt) : (placesC a b).length ≤ a.length + b.length := by
  unfold placesC Lib.compact Lib.compactUpTo
  rw [List.length_map]
  refine Nat.le_trans (List.length_filter_le ..) ?_
  rw [List.length_range, srt_len, List.length_append, xsC_len, xsC_len]; exact Nat.le_refl _
theorem inc_getD {l : List Int} (h : l.Pairwise (· < ·)) {i j : Nat} (hij : i < j) (hj : j < l.length) : l.getD i default < l.getD j default := by
  have := List.pairwise_iff_getElem.1 h i j (by omega) hj hij
  rw [List.getD_eq_getElem?_getD, List.getD_eq_getElem?_getD, List.getElem?_eq_getElem hj, List.getElem?_eq_getElem (by omega)]; exact this
theorem places_comm (a b : List Pt) : placesC a b = placesC b a :=
  inc_ext _ _ (places_inc a b) (places_inc b a) fun x => by rw [places_mem, places_mem]; exact Or.comm
def sumC (a b : List Pt) : List Pt := (placesC a b).map fun x => ⟨x, valC a x + valC b x⟩
theorem sumC_comm (a b : List Pt) : sumC a b = sumC b a := by
  unfold sumC; rw [places_comm]
  exact List.map_congr_left fun x _ => by rw [Int.add_comm]
def addC (a b : List Pt) : List Pt × Int := if checkC a ≠ 0 then ([], checkC a) else if checkC b ≠ 0 then ([], checkC b) else if checkC (sumC a b) ≠ 0 then ([], checkC (sumC a b)) else (sumC a b, 0)
end Pv
end Go.Proofs.Ytedoglkonfckkaa
