/- A FUNCTION THAT ONLY READS WHAT A POINTER LEADS TO may be handed a box. -/
import Derived.Test.YtogoplhikmmggaaPv26
set_option linter.unusedSimpArgs false
set_option linter.unusedVariables false
namespace Go.Proofs.Ytogoplhikmmggaa
namespace Pv
open Go.RowKit

/-- A result that names nothing. -/
def PV.plain : PV → Bool
  | .int _ _ | .bool _ | .str _ => true
  | _ => false
theorem Rep.plain {X X' : Cx} {γ γ' : Gh} {w w' : World} {p : PV} {v : Value} (hp : p.plain = true) (h : Rep X γ w p v) : Rep X' γ' w' p v := by
  cases h <;> first | (simp [PV.plain] at hp; done) | constructor

theorem PureCall.of_rp {P : Program} {f : FuncId} {cells args : List PV} {val : PV} (hC : PureCall P f (.rp 2 cells :: args) [] ⟨val, [], []⟩)
    (hv : val.plain = true) (hc : ∀ c ∈ cells, c.flat = true ∧ c.tau ≤ 2) (ha : ∀ c ∈ args, c.flat = true ∧ c.tau ≤ 2 ∧ c.mark 2 = c) :
    PureCall P f (.pt 0 0 0 :: args) [.box cells] ⟨val, [.box cells], []⟩ := by
  refine ⟨hC.1, fun w γ as ls vals hst hX hargs => ?_⟩
  obtain ⟨u, us, rfl, hu, hus⟩ := hargs.cons_inv
  have hdom := hst.dom 0
  simp only [List.getElem?_cons_zero, Option.isSome_some] at hdom
  obtain ⟨ge, hge⟩ := Option.isSome_iff_exists.1 hdom
  obtain ⟨b, T, vs, hb, hheap, hone, hrep⟩ := hst.at_ 0 ge _ hge rfl
  have hup : u = .pointer (some ⟨b, 0, none⟩) := by
    cases hu with
    | pt r i j ge' b' hg' hb' =>
      rw [hge] at hg'; injection hg' with hg'; subst hg'
      rw [hb] at hb'; injection hb' with hb'; subst hb'
      simp
  subst hup
  have hblt : b < w.heap.size := hst.lt b ⟨0, ge, hge, hb⟩
  have hL : Lent ⟨w.heap.size, as, ls, 1, γ⟩ ⟨w.heap.size, as, fun x => ls x ∨ x = b, 0, fun _ => none⟩ γ (fun _ => none) w := by
    refine ⟨fun b' _ hm => ⟨fun ⟨r, g, h, _⟩ => (by cases h), ?_⟩, fun τ b' _ hm => ⟨fun ⟨r, g, h, _⟩ => (by cases h), ?_⟩⟩
    · rcases hm.2 with h | h | h
      · exact .inl h
      · exact .inr (.inl h)
      · exact absurd h.1 (by omega)
    · rcases hm.2 with h | h | h
      · exact .inl h
      · exact .inr (.inl ⟨by omega, h.2⟩)
      · exact .inr (.inr ⟨Nat.le_refl _, .inl h.2⟩)
  have hlt2 : ∀ n, n ≤ 2 → lendT n ≤ 2 := fun n hn => lendT_mono (b := 2) hn
  have hcell : ∀ k c, cells[k]? = some c → ∃ x, vs[k]? = some x ∧ Rep ⟨w.heap.size, as, ls, 1, γ⟩ γ w c x := fun k c hk => by
    have hlen := hrep.1
    have hlt : k < cells.length := (List.getElem?_eq_some_iff.1 hk).1
    have hx : vs.toList[k]? = some (vs.toList[k]'(by omega)) := List.getElem?_eq_getElem (by omega)
    exact ⟨_, by rw [← Array.getElem?_toList]; exact hx, hrep.2 k c _ hk hx⟩
  have key := hC.2 w (fun _ => none) as (fun x => ls x ∨ x = b) (.pointer (some ⟨b, 0, none⟩) :: us)
    ⟨fun r => (by simp), fun r g e h => (by cases h), fun r r' g g' b' h => (by cases h), fun b' ⟨r, g, h, _⟩ => (by cases h), fun b' ⟨r, g, h, _⟩ => (by cases h)⟩
    (fun b' h => by rcases h with h | h | h
                    · exact hX b' (.inl h)
                    · exact hX b' (.inr h)
                    · rw [h]; exact hblt)
    (RepL.cons_ (.rp 2 cells ⟨b, 0, none⟩ (fun k => (vs[k]?).getD undef) (fun c hc' => (hc c hc').1) (fun _ => ⟨⟨fun ⟨r, g, h, _⟩ => (by cases h), .inr (.inr ⟨Nat.le_refl _, .inr rfl⟩)⟩, hblt⟩)
        (fun k hk => by
          obtain ⟨x, hx, _⟩ := hcell k _ (List.getElem?_eq_getElem hk)
          rw [cell_plain hheap 0 k, Nat.zero_add, hx]; rfl)
        (fun k c hk => by
          obtain ⟨x, hx, hr⟩ := hcell k c hk
          rw [hx]
          have hm := List.mem_of_getElem? hk
          exact hr.lend hL (hc c hm).1 2 (hlt2 _ (hc c hm).2)))
      ⟨hus.1, fun k c x hk hx => by
        have hm := List.mem_of_getElem? hk
        have h3 := ha c hm
        have := (hus.2 k c x hk hx).lend hL h3.1 2 (hlt2 _ h3.2.1)
        rwa [h3.2.2] at this⟩)
  refine key.mono ?_
  rintro ev w' ⟨v, γ', he, hv', _, hk, _, _⟩
  have hblk : ∀ b', b' < w.heap.size → w'.heap[b']? = w.heap[b']? := fun b' hb' => hk.block b' hb' (fun ⟨r, g, h, _⟩ => by cases h)
  have hmove : ∀ c x, Rep ⟨w.heap.size, as, ls, 1, γ⟩ γ w c x → Rep ⟨w.heap.size, as, ls, 1, γ⟩ γ w' c x := fun c x h => by
    have := h.move (k := []) (γ' := γ) (w' := w') (fun r g _ h => h) (fun b' h => .inl h) hk.size (fun b' _ hb' => hblk b' hb')
    rwa [void_nil] at this
  refine ⟨v, γ, he, hv'.plain hv, ⟨fun r => ?_, fun r g e h1 h2 => ?_, hst.inj, hst.asOff, fun b' h => Nat.lt_of_lt_of_le (hst.lt b' h) hk.size⟩, hk.mono (fun i _ ⟨r, g, h, _⟩ => (by cases h)), fun r _ => rfl, fun b' h => .inl h⟩
  · have := hst.dom r
    unfold resSt
    by_cases hr : newBase ≤ r
    · rw [if_pos hr]
      have hr0 : r ≠ 0 := by
        intro h; rw [h] at hr; exact absurd hr (by decide)
      rw [this]
      cases r with
      | zero => exact absurd rfl hr0
      | succ r => simp
    · rw [if_neg hr]; exact this
  · have hr0 : r = 0 := by
      have := hst.dom r
      rw [h1] at this
      cases r with
      | zero => rfl
      | succ r => simp at this
    subst hr0
    have h2' : e = .box cells := by
      unfold resSt at h2
      rw [if_neg (by decide)] at h2
      simpa using h2.symm
    subst h2'
    rw [hge] at h1; injection h1 with h1; subst h1
    exact ⟨b, T, vs, hb, by rw [hblk b hblt]; exact hheap, hone, hrep.1, fun k c x hk hx => hmove c x (hrep.2 k c x hk hx)⟩
end Pv
end Go.Proofs.Ytogoplhikmmggaa
