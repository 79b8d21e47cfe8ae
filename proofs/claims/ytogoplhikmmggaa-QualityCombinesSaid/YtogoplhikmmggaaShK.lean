/- THE LIBRARY's slices.Clone AT NUMBERS: its contract in the words of pure calls. -/
import Derived.Test.YtogoplhikmmggaaShS
set_option linter.unusedSimpArgs false
set_option linter.unusedVariables false
namespace Go.Proofs.Ytogoplhikmmggaa
namespace Pv
open Go.RowKit

theorem ints_vals {X : Cx} {γ : Gh} {w : World} {τ : Nat} {f : Nat → List PV} {l : List Int} {vs : List Value} (h5 : RowsRep X γ w τ 1 l.length f vs) (hf : RowEq l.length f (fl (fun n : Int => [PV.int .i64 n]) l)) : vs = l.map (Value.int .i64) := by
  refine List.ext_getElem? fun j => ?_
  have hlen : vs.length = l.length := by rw [h5.len, Nat.mul_one]
  by_cases hj : j < l.length
  · have hc : (f j)[0]? = some (.int .i64 (l.getD j default)) := by rw [hf j hj]; rfl
    have hu : vs[j]? = some (vs[j]'(by omega)) := List.getElem?_eq_getElem (by omega)
    have := h5.rep j 0 _ (vs[j]'(by omega)) hj hc (by rw [Nat.mul_one, Nat.add_zero]; exact hu)
    have hi : vs[j]'(by omega) = .int .i64 (l.getD j default) := by
      have h6 : Rep X γ w (.int .i64 (l.getD j default)) (vs[j]'(by omega)) := this
      exact h6.int_inv
    rw [hu, hi, List.getElem?_map, getD_some hj]; rfl
  · rw [List.getElem?_eq_none (by omega), List.getElem?_eq_none (by simp; omega)]
theorem ints_rows {X : Cx} {γ : Gh} {w : World} (l : List Int) : RowsRep X γ w 0 1 l.length (fl (fun n : Int => [PV.int .i64 n]) l) (l.map (Value.int .i64)) := by
  refine ⟨by simp, fun u hu => ?_, fun i hi => rfl, fun i hi c hc => ?_, fun i j c u hi hc hu => ?_⟩
  · obtain ⟨n, _, rfl⟩ := List.mem_map.1 hu; rfl
  · have : c = .int .i64 (l.getD i default) := by simpa [fl] using hc
    subst this; rfl
  · have hj : j = 0 := by
      have := (List.getElem?_eq_some_iff.1 hc).1
      simp [fl] at this; omega
    subst hj
    have : c = .int .i64 (l.getD i default) := by
      have h0 : some (PV.int .i64 (l.getD i default)) = some c := hc
      injection h0 with h0; exact h0.symm
    subst this
    rw [Nat.mul_one, Nat.add_zero, List.getElem?_map, getD_some hi] at hu
    injection hu with hu; subst hu
    exact .int _ _

/-- A call that gives a new slice and changes nothing else. -/
theorem pure_new {P : Program} {f : FuncId} {τ e : Nat} {l l' : List Int} (hfn : ∃ fn, P.funcs[f]? = some fn ∧ fn.body.isSome = true ∧ (fn.name == "runtime.NumGoroutine") = false)
    (h : ∀ (w : World) (ad : Option Addr) (cap : Nat), l.length ≤ cap → (0 < l.length → ∃ b off, ad = some ⟨b, off, none⟩ ∧ ∀ j, j < l.length → w.cell? ⟨b, off + j, none⟩ = some (.int .i64 (l.getD j 0))) →
      Calls P f #[.slice ad l.length cap] w fun ev w' => ∃ v', ev = .returned v' ∧ w'.ownsRow w.heap.size e 1 v' l'.length (l'.map (Value.int .i64)) ∧ Keeps (fun _ => False) w w') :
    PureCall P f [.sl τ 1 l.length (fl (fun n : Int => [PV.int .i64 n]) l)] [] ⟨.os 1000000000, [], [.row 0 e 1 l'.length (fl (fun n : Int => [PV.int .i64 n]) l')]⟩ := by
  refine ⟨hfn, fun w γ as_ ls vals hst hX hargs => ?_⟩
  obtain ⟨v, us, rfl, hv, hus⟩ := hargs.cons_inv
  cases hus.nil_inv
  obtain ⟨ad, cap, vs, rfl, hcap, hr, hor, hcell⟩ := sl_rows hv
  have hvs := ints_vals hr (fun _ _ => rfl)
  subst hvs
  refine (h w ad cap hcap (fun h0 => ?_)).mono ?_
  · rcases hor with h1 | ⟨a, rfl, hm, hlt⟩
    · omega
    · have hc := hcell a rfl
      obtain ⟨b, off, sp⟩ := a
      have h1 := hc 0 (.int .i64 (l.getD 0 default)) (by rw [List.getElem?_map, getD_some h0]; rfl)
      have hsp : sp = none := by
        simp only [Addr.add, if_pos] at h1
        unfold World.cell? at h1
        simp only at h1
        split at h1
        · cases sp with
          | none => rfl
          | some _ => simp at h1
        · cases h1
      subst hsp
      refine ⟨b, off, rfl, fun j hj => ?_⟩
      have h2 := hc j (.int .i64 (l.getD j default)) (by rw [List.getElem?_map, getD_some hj]; rfl)
      by_cases hj0 : j = 0
      · subst hj0; simpa [Addr.add] using h2
      · simpa [Addr.add, hj0] using h2
  · rintro ev w' ⟨v', he, ho, hk⟩
    have ho0 : w'.ownsRow 0 e 1 v' l'.length (l'.map (Value.int .i64)) := ⟨ho.1, ho.2.imp id fun ⟨g, cap, cur, a, b, c⟩ => ⟨g, cap, cur, a, Nat.zero_le _, c⟩⟩
    have hone : v'.oneCell' = true := slice_one ho0
    have hblk : ∀ b, v'.ownBlock = some b → w.heap.size ≤ b ∧ b < w'.heap.size := fun b hb => by
      refine ⟨?_, own_lt' ho0 b hb⟩
      rcases ho.2 with ⟨h0, _⟩ | ⟨g, cap, cur, h0, h1, _⟩
      · subst h0; cases hb
      · subst h0; injection hb with hb; subst hb; exact h1
    have hnone : ∀ r, γ r = none := fun r => by
      have := hst.dom r
      simp at this
      exact this
    refine ⟨v', fun r => if r = 1000000000 then some ⟨v'.ownBlock, v', 1⟩ else none, he, .os _ ⟨v'.ownBlock, v', 1⟩ (by simp) hone, ?_, ⟨hk.os, hk.tape, hk.output, hk.size, fun b hb _ => hk.block b hb (fun h => h)⟩, fun r hr => by simp at hr, fun b ⟨r, ge, hr, hb⟩ => ?_⟩
    · refine ⟨fun r => ?_, fun r ge se hr hs => ?_, fun r r' ge ge' b hr hr' _ _ => ?_, fun b ⟨r, ge, hr, hb⟩ => ?_, fun b ⟨r, ge, hr, hb⟩ => ?_⟩
      · by_cases h : r = 1000000000
        · subst h; simp [resSt, newBase]
        · simp only [h, if_false, resSt]
          by_cases h2 : newBase ≤ r
          · have : 1 ≤ r - newBase := by unfold newBase at *; omega
            rw [if_pos h2, List.getElem?_eq_none (by simpa using this)]; rfl
          · rw [if_neg h2]; simp
      · by_cases h : r = 1000000000
        · subst h
          simp only [if_true, Option.some.injEq] at hr
          subst hr
          simp [resSt, newBase] at hs
          subst hs
          exact (ints_rows l').repS rfl rfl hone ho0
        · simp only [h, if_false] at hr; cases hr
      · by_cases h : r = 1000000000
        · by_cases h' : r' = 1000000000
          · rw [h, h']
          · simp only [h', if_false] at hr'; cases hr'
        · simp only [h, if_false] at hr; cases hr
      · by_cases h : r = 1000000000
        · simp only [h, if_true, Option.some.injEq] at hr
          subst hr
          have := (hblk b hb).1
          exact ⟨fun ha => by have := hX b (.inl ha); omega, fun ha => by have := hX b (.inr ha); omega⟩
        · simp only [h, if_false] at hr; cases hr
      · by_cases h : r = 1000000000
        · simp only [h, if_true, Option.some.injEq] at hr
          subst hr
          exact (hblk b hb).2
        · simp only [h, if_false] at hr; cases hr
    · by_cases h : r = 1000000000
      · simp only [h, if_true, Option.some.injEq] at hr
        subst hr
        exact .inr (hblk b hb).1
      · simp only [h, if_false] at hr; cases hr

theorem call_clone (τ : Nat) (l : List Int) (hl : l.length * 8 ≤ 140737488355328) : PureCall Try.prog 34 [.sl τ 1 l.length (fl (fun n : Int => [PV.int .i64 n]) l)] [] ⟨.os 1000000000, [], [.row 0 3 1 l.length (fl (fun n : Int => [PV.int .i64 n]) l)]⟩ := by
  have hbel : ∀ {w w' : World}, Below w.heap.size w w' → Keeps (fun _ => False) w w' := fun {w w'} hb => ⟨hb.os, hb.tape, hb.output, hb.size, fun b hb' _ => hb.block b hb'⟩
  refine pure_new ⟨_, Try.func34, rfl, rfl⟩ fun w ad cap hcap hc => ?_
  by_cases h0 : 0 < l.length
  · obtain ⟨b, off, rfl, hcell⟩ := hc h0
    refine (Sh.slices_Clone_int b off l.length cap l w (Nat.le_refl _) hl hcell).mono ?_
    rintro ev w' ⟨v', he, ho, _, hb⟩
    rw [List.take_length] at ho
    exact ⟨v', he, ho, hbel hb⟩
  · have hl0 : l = [] := List.eq_nil_of_length_eq_zero (by omega)
    subst hl0
    cases ad with
    | none =>
      refine (Sh.slices_Clone_int_nil 0 cap w).mono ?_
      rintro ev w' ⟨he, rfl⟩
      exact ⟨_, he, ⟨rfl, .inl ⟨rfl, rfl⟩⟩, Keeps.refl _ _⟩
    | some a =>
      refine (Sh.slices_Clone_int_zero a cap w).mono ?_
      rintro ev w' ⟨v', he, ho, _, hb⟩
      exact ⟨v', he, ho, hbel hb⟩
end Pv
end Go.Proofs.Ytogoplhikmmggaa
