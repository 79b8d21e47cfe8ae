/- LAW: QualityFaults: the row. -/
import Derived.Test.YtogoplhikmmggaaQ15
import Derived.Test.YtogoplhikmmggaaPv25
import Derived.WalkKit
import Derived.ProofKit
import Derived.OpenShut
import Derived.ShutString
import Derived.ChangeOld
import Derived.Below
set_option linter.unusedSimpArgs false
set_option linter.unusedVariables false
namespace Go.Proofs.Ytogoplhikmmggaa
open Go.ChangeShapes Go.WideShapes Go.ChangeAt Go.RowKit

theorem Try.own : ownKnob Try.prog.godebug = none := by kernel_rfl
theorem Try.laidOut : laidOutB Try.prog = true := by kernel_rfl

namespace Pv
theorem dec_int : ∀ ps, ShL [.int .i64] ps → ∃ x : Int, ps = eInt x ∧ inR .i64 x := fun ps h => by
  obtain ⟨p, qs, rfl, h1, h⟩ := shl_cons h
  cases shl_nil h
  obtain ⟨a, rfl, ha⟩ := sh_int h1
  exact ⟨a, rfl, ha⟩
theorem of_wf {n : Int} (h : (Lit.int .i64 n).wf = true) : inR .i64 n := by
  simp only [Lit.wf, Bool.and_eq_true, decide_eq_true_eq] at h; exact h
end Pv

set_option maxRecDepth 100000 in
theorem liftedQualityFaults (os : Os) (started : os.Started) (H : Type) (enc : TypeId × Value → H) :
    ReturnsInHanded {} Try.checked os 8 .any (Rows.qualityFaultsSpec.pre6 enc Try.prog Try.f8 Rows.qualityFaultsRow.domain false) (Rows.qualityFaultsSpec.post enc Try.prog Try.f8 false true false false) := by
  refine returnsInHanded_of_change (C := Try.checked) Try.own started (by kernel_rfl) Try.func8
    (ChangeSpec.witness6 (enc := enc) (C := Try.checked) false ⟨#[], #[.slice none 0 0, .int .i64 0], []⟩ 8 (by kernel_rfl) (by kernel_rfl) (by kernel_rfl) (by kernel_rfl)) ?_
  intro W base args ds gs before hval0 hW hcnd _
  have hval : ∀ (j : Nat) t v, Try.f8.params[j]? = some t → args[j]? = some v → Value.okWide Try.prog W .any base t v := hval0
  have hW' := hW
  obtain ⟨p, q, hA0, hV, rfl, hfz, hnd⟩ := hW
  have hA : DataW.TrodAll enc Try.prog W 0 (fun _ => true) true Try.f8.params.toList args.toList ds p := hA0
  rw [Try.params8] at hA hval
  obtain ⟨v0, vs0, d0, ds0, p0, q0, hargs, rfl, rfl, h0, r0⟩ := trodAll_cons hA
  obtain ⟨v1, vs1, d1, ds1, p1, q1, rfl, rfl, rfl, h1, r1⟩ := trodAll_cons r0
  obtain ⟨rfl, rfl, rfl⟩ := trodAll_nil r1
  obtain rfl : args = #[v0, v1] := by cases args; simp_all
  obtain ⟨rfl, rfl⟩ := trodVars_none hV
  have k0 := h0
  have lt0 : ∀ x ∈ p0, x.block < W.heap.size := by obtain ⟨m, hm⟩ := k0; exact DataW.trod_lt m _ _ _ hm
  obtain ⟨a0, len0, cap0, rfl⟩ := okWide_slice Try.underlying22 (hval 0 22 v0 rfl rfl)
  obtain ⟨_, s0, g0⟩ := Pv.arg_one (m := 9) (s := .sl [.int .i64]) (by kernel_rfl) rfl k0
  obtain ⟨l0, e0, _, i0⟩ := Pv.sh_list Pv.eInt (Pv.inR .i64) Pv.dec_int s0 g0
  obtain ⟨l1, rfl, rfl, rfl, w1⟩ := open_int Try.underlying3 (hval 1 3 v1 rfl rfl) h1
  have i1 : Pv.inR .i64 l1 := Pv.of_wf w1
  have e1 : Pv.Rep (Pv.cx0 W) Pv.gh0 W (.int .i64 l1) (.int .i64 l1) := .int _ _
  clear hA0 hval0
  refine (Pv.law_calls (Pv.call8 l0 l1) (Pv.RepL.cons_ e0 (Pv.RepL.cons_ e1 Pv.RepL.nil_))).mono fun e W' ⟨he, bel⟩ => ?_
  subst he
  exact ⟨_, rfl, _, _, _, [], _, [], hW', trodAll_mk1 (shut_bool Try.underlying4 _), (trodAll_cons_mk (Below.trod Try.laidOut (by kernel_rfl) (of_decide_eq_true (by kernel_rfl)) k0 bel lt0) (trodAll_cons_mk (shut_int Try.underlying3 w1) trodAll_mk0)), rfl, bel.frame _, fun h => by cases h⟩

/-- QualityFaults: the given statement. -/
theorem QualityFaults_holds : Rows.QualityFaultsSaid :=
  OpenClaim.holds_of_wide 8 Try.f8 rfl rfl rfl rfl rfl rfl rfl ⟨rfl, rfl, rfl, rfl, rfl⟩ rfl rfl rfl rfl rfl (by kernel_rfl) Try.func8 (by kernel_rfl)
    (of_decide_eq_true (by kernel_rfl)) (by unfold Func.isWrapper; first | (rw [if_pos (by decide +kernel)]; kernel_rfl) | (rw [if_neg (by decide +kernel)]; exact ⟨rfl, rfl⟩))
    (fun os started H enc _ => liftedQualityFaults os started H enc)
end Go.Proofs.Ytogoplhikmmggaa
