/- THE LIBRARY's slices.Sort AT NUMBERS, as calls that write into a slice of the caller's own. -/
import Derived.Test.YtogoplhikmmggaaPv26
import Derived.Test.YtogoplhikmmggaaShL
import Derived.Sort.OwnSortedInts
set_option linter.unusedSimpArgs false
set_option linter.unusedVariables false
namespace Go.Proofs.Ytogoplhikmmggaa
namespace Pv
open Go.Sort Go.RowKit

theorem ints_holds {w : World} {g T cap : Nat} {l : List Int} (h : IntsIn w g T cap l) : Holds (Value.int .i64) w g 0 l.toArray ∧ g < w.heap.size := by
  obtain ⟨cur, hg, hnc, hcm, hsz, htk⟩ := h
  rw [Nat.mul_one] at htk
  exact ⟨holds_of_blockI hg htk, (Array.getElem?_eq_some_iff.1 hg).1⟩
theorem ints_put {w : World} {g T cap n : Nat} {os : Array Obj} {l l' d : List Int} (h : IntsIn w g T cap l) (hd : d.length = l.length) (hp : d.take l'.length = l') : Keeps (· = g) w (grow (putRow (Value.int .i64) (Sort.ahead w n) g 0 d.toArray) os) ∧ IntsIn (grow (putRow (Value.int .i64) (Sort.ahead w n) g 0 d.toArray) os) g T cap l' := by
  obtain ⟨cur, hg, hnc, hcm, hsz, htk⟩ := h
  have hgb := grownBy_sortedI (w := w) (g := g) (n := n) (os := os) d.toArray
  have hl' : l'.length ≤ d.length := by rw [← hp, List.length_take]; omega
  refine ⟨⟨hgb.os, hgb.tape, hgb.output, hgb.size, fun b hb hne => hgb.block b hb (fun h => hne (by injection h))⟩, _, heap_sortedI _ hg, by omega, hcm, by simp [putCells, hsz], ?_⟩
  have := take_putCellsI cur d (by omega)
  rw [Nat.mul_one]
  rw [show l'.length = min l'.length d.length by omega, ← List.take_take, this, ← List.map_take, hp]


theorem sort_inplace (l : List Int) (hb : l.length < 4611686018427387904) : InPlace Try.prog 32 l (l.mergeSort fun x y => decide (x ≤ y)) false := by
  refine ⟨⟨_, Try.func32, rfl, rfl⟩, fun w g cap T h => ?_⟩
  obtain ⟨h1, h2⟩ := ints_holds h
  refine (Sh.slices_Sort_int g 0 cap l w h1 h2 hb).mono ?_
  rintro e w' ⟨he, n, os, rfl⟩
  have hlen : (l.mergeSort fun x y => decide (x ≤ y)).length = l.length := List.length_mergeSort ..
  obtain ⟨k1, k2⟩ := ints_put (n := n) (os := os) (d := l.mergeSort fun x y => decide (x ≤ y)) (l' := l.mergeSort fun x y => decide (x ≤ y)) h hlen (List.take_length ..)
  exact ⟨by rw [he]; rfl, k1, k2⟩

end Pv
end Go.Proofs.Ytogoplhikmmggaa
