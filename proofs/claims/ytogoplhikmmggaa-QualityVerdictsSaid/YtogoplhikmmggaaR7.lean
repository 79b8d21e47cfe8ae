/- LAW: QualityVerdicts: the row. -/
import Derived.Test.YtogoplhikmmggaaQ14
import Derived.Test.YtogoplhikmmggaaPv25
import Derived.WalkKit
import Derived.ProofKit
import Derived.OpenShut
import Derived.ShutString
import Derived.ChangeOld
import Derived.Below
set_option linter.unusedSimpArgs false
set_option linter.unusedVariables false
namespace Go.Proofs.Ytogoplhikmmggaa
open Go.ChangeShapes Go.WideShapes Go.ChangeAt Go.RowKit

theorem Try.own : ownKnob Try.prog.godebug = none := by kernel_rfl
theorem Try.laidOut : laidOutB Try.prog = true := by kernel_rfl

namespace Pv
theorem dec_int : ∀ ps, ShL [.int .i64] ps → ∃ x : Int, ps = eInt x ∧ inR .i64 x := fun ps h => by
  obtain ⟨p, qs, rfl, h1, h⟩ := shl_cons h
  cases shl_nil h
  obtain ⟨a, rfl, ha⟩ := sh_int h1
  exact ⟨a, rfl, ha⟩
theorem of_wf {n : Int} (h : (Lit.int .i64 n).wf = true) : inR .i64 n := by
  simp only [Lit.wf, Bool.and_eq_true, decide_eq_true_eq] at h; exact h
theorem dec_ck : ∀ ps, ShL [.int .i64, .int .i64, .int .i64, .int .i64] ps → ∃ x : Ck, ps = eCk x ∧ True := fun ps h => by
  obtain ⟨p, qs, rfl, h1, h⟩ := shl_cons h
  obtain ⟨q, rs, rfl, h2, h⟩ := shl_cons h
  obtain ⟨r, ss, rfl, h3, h⟩ := shl_cons h
  obtain ⟨u, us, rfl, h4, h⟩ := shl_cons h
  cases shl_nil h
  obtain ⟨a, rfl, ha⟩ := sh_int h1
  obtain ⟨b, rfl, hb⟩ := sh_int h2
  obtain ⟨c, rfl, hb⟩ := sh_int h3
  obtain ⟨d, rfl, hb⟩ := sh_int h4
  exact ⟨⟨a, b, c, d⟩, rfl, trivial⟩
theorem dec_rd : ∀ ps, ShL [.int .i64, .int .i64, .int .i64, .int .i64] ps → ∃ x : Rd, ps = eRd x ∧ True := fun ps h => by
  obtain ⟨p, qs, rfl, h1, h⟩ := shl_cons h
  obtain ⟨q, rs, rfl, h2, h⟩ := shl_cons h
  obtain ⟨r, ss, rfl, h3, h⟩ := shl_cons h
  obtain ⟨u, us, rfl, h4, h⟩ := shl_cons h
  cases shl_nil h
  obtain ⟨a, rfl, ha⟩ := sh_int h1
  obtain ⟨b, rfl, hb⟩ := sh_int h2
  obtain ⟨c, rfl, hb⟩ := sh_int h3
  obtain ⟨d, rfl, hb⟩ := sh_int h4
  exact ⟨⟨a, b, c, d⟩, rfl, trivial⟩
end Pv

set_option maxRecDepth 100000 in
theorem liftedQualityVerdicts (os : Os) (started : os.Started) (H : Type) (enc : TypeId × Value → H) :
    ReturnsInHanded {} Try.checked os 7 .any (Rows.qualityVerdictsSpec.pre6 enc Try.prog Try.f7 Rows.qualityVerdictsRow.domain false) (Rows.qualityVerdictsSpec.post enc Try.prog Try.f7 false true false false) := by
  refine returnsInHanded_of_change (C := Try.checked) Try.own started (by kernel_rfl) Try.func7
    (ChangeSpec.witness6 (enc := enc) (C := Try.checked) false ⟨#[], #[.agg #[.int .i64 0, .int .i64 0, .int .i64 0, .int .i64 0], .agg #[.int .i64 0, .int .i64 0, .int .i64 0, .int .i64 0], .slice none 0 0], []⟩ 8 (by kernel_rfl) (by kernel_rfl) (by kernel_rfl) (by kernel_rfl)) ?_
  intro W base args ds gs before hval0 hW hcnd _
  have hval : ∀ (j : Nat) t v, Try.f7.params[j]? = some t → args[j]? = some v → Value.okWide Try.prog W .any base t v := hval0
  have hW' := hW
  obtain ⟨p, q, hA0, hV, rfl, hfz, hnd⟩ := hW
  have hA : DataW.TrodAll enc Try.prog W 0 (fun _ => true) true Try.f7.params.toList args.toList ds p := hA0
  rw [Try.params7] at hA hval
  obtain ⟨v0, vs0, d0, ds0, p0, q0, hargs, rfl, rfl, h0, r0⟩ := trodAll_cons hA
  obtain ⟨v1, vs1, d1, ds1, p1, q1, rfl, rfl, rfl, h1, r1⟩ := trodAll_cons r0
  obtain ⟨v2, vs2, d2, ds2, p2, q2, rfl, rfl, rfl, h2, r2⟩ := trodAll_cons r1
  obtain ⟨rfl, rfl, rfl⟩ := trodAll_nil r2
  obtain rfl : args = #[v0, v1, v2] := by cases args; simp_all
  obtain ⟨rfl, rfl⟩ := trodVars_none hV
  have k0 := h0
  have lt0 : ∀ x ∈ p0, x.block < W.heap.size := by obtain ⟨m, hm⟩ := k0; exact DataW.trod_lt m _ _ _ hm
  obtain ⟨c0, rfl, _⟩ := okWide_struct Try.underlying46 (hval 0 46 v0 rfl rfl)
  obtain ⟨_, s0, e0⟩ := Pv.arg_agg (m := 9) (shs := [.int .i64, .int .i64, .int .i64, .int .i64]) (by kernel_rfl) k0
  obtain ⟨l0, rfl, i0⟩ := Pv.dec_ck _ s0
  have k1 := h1
  have lt1 : ∀ x ∈ p1, x.block < W.heap.size := by obtain ⟨m, hm⟩ := k1; exact DataW.trod_lt m _ _ _ hm
  obtain ⟨c1, rfl, _⟩ := okWide_struct Try.underlying48 (hval 1 48 v1 rfl rfl)
  obtain ⟨_, s1, e1⟩ := Pv.arg_agg (m := 9) (shs := [.int .i64, .int .i64, .int .i64, .int .i64]) (by kernel_rfl) k1
  obtain ⟨l1, rfl, i1⟩ := Pv.dec_rd _ s1
  have k2 := h2
  have lt2 : ∀ x ∈ p2, x.block < W.heap.size := by obtain ⟨m, hm⟩ := k2; exact DataW.trod_lt m _ _ _ hm
  obtain ⟨a2, len2, cap2, rfl⟩ := okWide_slice Try.underlying22 (hval 2 22 v2 rfl rfl)
  obtain ⟨_, s2, g2⟩ := Pv.arg_one (m := 9) (s := .sl [.int .i64]) (by kernel_rfl) rfl k2
  obtain ⟨l2, e2, _, i2⟩ := Pv.sh_list Pv.eInt (Pv.inR .i64) Pv.dec_int s2 g2
  clear hA0 hval0
  refine (Pv.law_calls (Pv.call7 l0 l1 l2) (Pv.RepL.cons_ e0 (Pv.RepL.cons_ e1 (Pv.RepL.cons_ e2 Pv.RepL.nil_)))).mono fun e W' ⟨he, bel⟩ => ?_
  subst he
  exact ⟨_, rfl, _, _, _, [], _, [], hW', trodAll_mk1 (shut_bool Try.underlying4 _), (trodAll_cons_mk (Below.trod Try.laidOut (by kernel_rfl) (of_decide_eq_true (by kernel_rfl)) k0 bel lt0) (trodAll_cons_mk (Below.trod Try.laidOut (by kernel_rfl) (of_decide_eq_true (by kernel_rfl)) k1 bel lt1) (trodAll_cons_mk (Below.trod Try.laidOut (by kernel_rfl) (of_decide_eq_true (by kernel_rfl)) k2 bel lt2) trodAll_mk0))), rfl, bel.frame _, fun h => by cases h⟩

/-- QualityVerdicts: the given statement. -/
theorem QualityVerdicts_holds : Rows.QualityVerdictsSaid :=
  OpenClaim.holds_of_wide 7 Try.f7 rfl rfl rfl rfl rfl rfl rfl ⟨rfl, rfl, rfl, rfl, rfl⟩ rfl rfl rfl rfl rfl (by kernel_rfl) Try.func7 (by kernel_rfl)
    (of_decide_eq_true (by kernel_rfl)) (by unfold Func.isWrapper; first | (rw [if_pos (by decide +kernel)]; kernel_rfl) | (rw [if_neg (by decide +kernel)]; exact ⟨rfl, rfl⟩))
    (fun os started H enc _ => liftedQualityVerdicts os started H enc)
end Go.Proofs.Ytogoplhikmmggaa
