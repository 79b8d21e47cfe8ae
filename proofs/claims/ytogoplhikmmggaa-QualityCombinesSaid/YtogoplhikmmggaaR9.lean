/- LAW: QualityCombines: the row. -/
import Derived.Test.YtogoplhikmmggaaQ25
import Derived.Test.YtogoplhikmmggaaPv29
import Derived.WalkKit
import Derived.ProofKit
import Derived.OpenShut
import Derived.ShutString
import Derived.ChangeOld
import Derived.Below
set_option linter.unusedSimpArgs false
set_option linter.unusedVariables false
namespace Go.Proofs.Ytogoplhikmmggaa
open Go.ChangeShapes Go.WideShapes Go.ChangeAt Go.RowKit

theorem Try.own : ownKnob Try.prog.godebug = none := by kernel_rfl
theorem Try.laidOut : laidOutB Try.prog = true := by kernel_rfl

namespace Pv
theorem dec_int : ∀ ps, ShL [.int .i64] ps → ∃ x : Int, ps = eInt x ∧ inR .i64 x := fun ps h => by
  obtain ⟨p, qs, rfl, h1, h⟩ := shl_cons h
  cases shl_nil h
  obtain ⟨a, rfl, ha⟩ := sh_int h1
  exact ⟨a, rfl, ha⟩
theorem of_wf {n : Int} (h : (Lit.int .i64 n).wf = true) : inR .i64 n := by
  simp only [Lit.wf, Bool.and_eq_true, decide_eq_true_eq] at h; exact h
theorem dec_ck : ∀ ps, ShL [.int .i64, .int .i64, .int .i64, .int .i64] ps → ∃ x : Ck, ps = eCk x ∧ True := fun ps h => by
  obtain ⟨p, qs, rfl, h1, h⟩ := shl_cons h
  obtain ⟨q, rs, rfl, h2, h⟩ := shl_cons h
  obtain ⟨r, ss, rfl, h3, h⟩ := shl_cons h
  obtain ⟨u, us, rfl, h4, h⟩ := shl_cons h
  cases shl_nil h
  obtain ⟨a, rfl, ha⟩ := sh_int h1
  obtain ⟨b, rfl, hb⟩ := sh_int h2
  obtain ⟨c, rfl, hb⟩ := sh_int h3
  obtain ⟨d, rfl, hb⟩ := sh_int h4
  exact ⟨⟨a, b, c, d⟩, rfl, trivial⟩
theorem dec_rd : ∀ ps, ShL [.int .i64, .int .i64, .int .i64, .int .i64] ps → ∃ x : Rd, ps = eRd x ∧ True := fun ps h => by
  obtain ⟨p, qs, rfl, h1, h⟩ := shl_cons h
  obtain ⟨q, rs, rfl, h2, h⟩ := shl_cons h
  obtain ⟨r, ss, rfl, h3, h⟩ := shl_cons h
  obtain ⟨u, us, rfl, h4, h⟩ := shl_cons h
  cases shl_nil h
  obtain ⟨a, rfl, ha⟩ := sh_int h1
  obtain ⟨b, rfl, hb⟩ := sh_int h2
  obtain ⟨c, rfl, hb⟩ := sh_int h3
  obtain ⟨d, rfl, hb⟩ := sh_int h4
  exact ⟨⟨a, b, c, d⟩, rfl, trivial⟩
end Pv

set_option maxRecDepth 100000 in
theorem liftedQualityCombines (os : Os) (started : os.Started) (H : Type) (enc : TypeId × Value → H) :
    ReturnsInHanded {} Try.checked os 9 .any (Rows.qualityCombinesSpec.pre6 enc Try.prog Try.f9 Rows.qualityCombinesRow.domain false) (Rows.qualityCombinesSpec.post enc Try.prog Try.f9 false true false false) := by
  refine returnsInHanded_of_change_sized (C := Try.checked) Try.own started (by kernel_rfl) Try.func9
    (ChangeSpec.witness6 (enc := enc) (C := Try.checked) false ⟨#[], #[.slice none 0 0, .slice none 0 0, .slice none 0 0, .int .i64 0], []⟩ 8 (by kernel_rfl) (by kernel_rfl) (by kernel_rfl) (by kernel_rfl)) ?_
  intro W base args ds gs before hval0 hW hcnd hsz0 _
  have hval : ∀ (j : Nat) t v, Try.f9.params[j]? = some t → args[j]? = some v → Value.okWide Try.prog W .any base t v := hval0
  have hW' := hW
  obtain ⟨p, q, hA0, hV, rfl, hfz, hnd⟩ := hW
  have hA : DataW.TrodAll enc Try.prog W 0 (fun _ => true) true Try.f9.params.toList args.toList ds p := hA0
  rw [Try.params9] at hA hval
  have hsz : (DataW.weightsEach Try.prog (Try.f9.params.toList ++ (Rows.qualityCombinesSpec).plain.varTypes Try.prog) (ds ++ gs)).all (· ≤ reachBytes) = true := hsz0
  rw [Try.params9] at hsz
  obtain ⟨v0, vs0, d0, ds0, p0, q0, hargs, rfl, rfl, h0, r0⟩ := trodAll_cons hA
  obtain ⟨v1, vs1, d1, ds1, p1, q1, rfl, rfl, rfl, h1, r1⟩ := trodAll_cons r0
  obtain ⟨v2, vs2, d2, ds2, p2, q2, rfl, rfl, rfl, h2, r2⟩ := trodAll_cons r1
  obtain ⟨v3, vs3, d3, ds3, p3, q3, rfl, rfl, rfl, h3, r3⟩ := trodAll_cons r2
  obtain ⟨rfl, rfl, rfl⟩ := trodAll_nil r3
  obtain rfl : args = #[v0, v1, v2, v3] := by cases args; simp_all
  obtain ⟨rfl, rfl⟩ := trodVars_none hV
  have k0 := h0
  have lt0 : ∀ x ∈ p0, x.block < W.heap.size := by obtain ⟨m, hm⟩ := k0; exact DataW.trod_lt m _ _ _ hm
  obtain ⟨a0, len0, cap0, rfl⟩ := okWide_slice Try.underlying52 (hval 0 52 v0 rfl rfl)
  obtain ⟨_, s0, g0⟩ := Pv.arg_one (m := 9) (s := .sl [.int .i64, .int .i64, .int .i64, .int .i64]) (by kernel_rfl) rfl k0
  obtain ⟨l0, e0, _, i0⟩ := Pv.sh_list Pv.eCk (fun _ => True) Pv.dec_ck s0 g0
  have z0 := Pv.sized_len hsz (j := 0) rfl rfl Try.underlying52 k0 (of_decide_eq_true (by kernel_rfl)) e0
  have k1 := h1
  have lt1 : ∀ x ∈ p1, x.block < W.heap.size := by obtain ⟨m, hm⟩ := k1; exact DataW.trod_lt m _ _ _ hm
  obtain ⟨a1, len1, cap1, rfl⟩ := okWide_slice Try.underlying53 (hval 1 53 v1 rfl rfl)
  obtain ⟨_, s1, g1⟩ := Pv.arg_one (m := 9) (s := .sl [.sl [.int .i64, .int .i64, .int .i64, .int .i64]]) (by kernel_rfl) rfl k1
  obtain ⟨l1, e1, _, i1⟩ := Pv.sh_list2 Pv.eRd (fun _ => True) Pv.dec_rd s1 g1
  have z1 : ∀ i, i < l1.length → (l1.getD i default).length ≤ 4398046510976 := fun i hi => by
    have := Pv.sized_len2 hsz (j := 1) rfl rfl Try.underlying53 Try.underlying50 (by kernel_rfl) k1 e1 hi (τ' := 1) (z' := 4) (N := (l1.getD i default).length) (f' := Pv.fl Pv.eRd (l1.getD i default)) rfl
    have hb : Try.prog.bytesOf 48 = 32 := by kernel_rfl
    rw [hb] at this; omega
  have k2 := h2
  have lt2 : ∀ x ∈ p2, x.block < W.heap.size := by obtain ⟨m, hm⟩ := k2; exact DataW.trod_lt m _ _ _ hm
  obtain ⟨a2, len2, cap2, rfl⟩ := okWide_slice Try.underlying22 (hval 2 22 v2 rfl rfl)
  obtain ⟨_, s2, g2⟩ := Pv.arg_one (m := 9) (s := .sl [.int .i64]) (by kernel_rfl) rfl k2
  obtain ⟨l2, e2, _, i2⟩ := Pv.sh_list Pv.eInt (Pv.inR .i64) Pv.dec_int s2 g2
  have z2 := Pv.sized_len hsz (j := 2) rfl rfl Try.underlying22 k2 (of_decide_eq_true (by kernel_rfl)) e2
  obtain ⟨l3, rfl, rfl, rfl, w3⟩ := open_int Try.underlying3 (hval 3 3 v3 rfl rfl) h3
  have i3 : Pv.inR .i64 l3 := Pv.of_wf w3
  have e3 : Pv.Rep (Pv.cx0 W) Pv.gh0 W (.int .i64 l3) (.int .i64 l3) := .int _ _
  clear hA0 hval0
  refine (Pv.law_calls (Pv.call9 l0 l1 l2 l3 (fun i hi => Nat.le_trans (z1 i hi) (by decide))) (Pv.RepL.cons_ e0 (Pv.RepL.cons_ e1 (Pv.RepL.cons_ e2 (Pv.RepL.cons_ e3 Pv.RepL.nil_))))).mono fun e W' ⟨he, bel⟩ => ?_
  subst he
  exact ⟨_, rfl, _, _, _, [], _, [], hW', trodAll_mk1 (shut_bool Try.underlying4 _), (trodAll_cons_mk (Below.trod Try.laidOut (by kernel_rfl) (of_decide_eq_true (by kernel_rfl)) k0 bel lt0) (trodAll_cons_mk (Below.trod Try.laidOut (by kernel_rfl) (of_decide_eq_true (by kernel_rfl)) k1 bel lt1) (trodAll_cons_mk (Below.trod Try.laidOut (by kernel_rfl) (of_decide_eq_true (by kernel_rfl)) k2 bel lt2) (trodAll_cons_mk (shut_int Try.underlying3 w3) trodAll_mk0)))), rfl, bel.frame _, fun h => by cases h⟩

/-- QualityCombines: the given statement. -/
theorem QualityCombines_holds : Rows.QualityCombinesSaid :=
  OpenClaim.holds_of_wide 9 Try.f9 rfl rfl rfl rfl rfl rfl rfl ⟨rfl, rfl, rfl, rfl, rfl⟩ rfl rfl rfl rfl rfl (by kernel_rfl) Try.func9 (by kernel_rfl)
    (of_decide_eq_true (by kernel_rfl)) (by unfold Func.isWrapper; first | (rw [if_pos (by decide +kernel)]; kernel_rfl) | (rw [if_neg (by decide +kernel)]; exact ⟨rfl, rfl⟩))
    (fun os started H enc _ => liftedQualityCombines os started H enc)
end Go.Proofs.Ytogoplhikmmggaa
