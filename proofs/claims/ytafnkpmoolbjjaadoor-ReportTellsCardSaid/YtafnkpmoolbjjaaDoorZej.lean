/- LAW ReportTells: the row and its card: the law returns true for every input, and the input reads as before; the listed tables read as the program's text lays them. -/
import Derived.Test.YtafnkpmoolbjjaaDoorZeg
import Derived.Test.YtafnkpmoolbjjaaDoorTie
import Derived.Test.YtafnkpmoolbjjaaDoorZeh
import Derived.WalkKit
import Derived.ProofKit
import Derived.OpenShut
import Derived.ShutString
import Derived.ChangeOld
import Derived.Below
import Derived.LaidMore
import Derived.Lay
import Derived.LaidSub
import Derived.SevenTiedAt
import Derived.Shelf.Vars
import Derived.MakeChecks
import Derived.Test.YtafnkpmoolbjjaaDoorZei
import Derived.Test.YtafnkpmoolbjjaaDoorCards
/- LAW 42, THE ROWS: what the rows' premises on package variables give. -/
set_option linter.unusedSimpArgs false
set_option linter.unusedVariables false
namespace Go.Proofs.YtafnkpmoolbjjaaDoor
open Go.ChangeShapes Go.WideShapes Go.ChangeAt Go.RowKit
theorem Tryd.own : ownKnob Tryd.prog.godebug = none := by kernel_rfl
theorem Tryd.laidOut : laidOutB Tryd.prog = true := by kernel_rfl
def lists : List (String × DataW Unit) := [("math/bits.deBruijn32tab", Rows.laid_math_bits_deBruijn32tab), ("math/bits.deBruijn64tab", Rows.laid_math_bits_deBruijn64tab), ("internal/strconv.uint64pow10", Rows.laid_internal_strconv_uint64pow10), ("unicode/utf8.acceptRanges", Rows.laid_unicode_utf8_acceptRanges), ("unicode/utf8.first", Rows.laid_unicode_utf8_first)]
theorem returns_door {H : Type} {enc : TypeId × Value → H} {a : Assume} {C : Checked} {os : Os} {f : FuncId} {fn : Func} {s : ChangeSpec} {conds : List PathCond} {apart fresh handsOn again : Bool} {X : World → Array Value → Prop}
    (hX : ∀ (w w' : World) (args : Array Value), w.heap = w'.heap → X w args → X w' args)
    (own : ownKnob C.prog.godebug = none) (started : os.Started) (noInit : C.prog.inits.idxOf? f = none) (hfn : C.prog.funcs[f]? = some fn)
    (witness : ∃ (w : World) (tape : Tape) (i : Input), w.os = os ∧ (w.forCall tape i).Shaped C.prog ∧ i.vars = [] ∧ Input.okWide C.prog (w.forCall tape i) .any w.heap.size f i ∧
      ((s.pre enc C.prog fn conds apart (w.forCall tape i).memory i.args ∧ X (w.forCall tape i).memory i.args) ∧ sizedMet enc C.prog fn (OpenSpec.ofChange s) apart (w.forCall tape i).memory i.args) ∧ a.holds C.prog (lone (Frame.enter C.prog f i.args .normal) [] (w.forCall tape i)))
    (law : ∀ (W : World) (base : Nat) (args : Array Value) (ds gs : List (DataW H)) (before : List MemPlace), (∀ (j : Nat) t v, fn.params[j]? = some t → args[j]? = some v → Value.okWide C.prog W .any base t v) →
      DataW.Whole enc C.prog fn.params.toList s.vars apart W args.toList ds gs before → (DataW.weightsEach C.prog (fn.params.toList ++ s.plain.varTypes C.prog) (ds ++ gs)).all (· ≤ reachBytes) = true → X W args → W.ShapedOpen C.prog →
      Calls C.prog f args W fun e W' => ∃ v, e = .returned v ∧ s.post enc C.prog fn apart fresh handsOn again W args v W') :
    ReturnsInHanded a C os f .any (fun w args => (s.pre enc C.prog fn conds apart w args ∧ X w args) ∧ sizedMet enc C.prog fn (OpenSpec.ofChange s) apart w args) (s.post enc C.prog fn apart fresh handsOn again) := by
  refine returnsInHanded_of_calls own started noInit witness fun w tape i _ hsh _ hok hpre _ => ?_
  obtain ⟨_, _, _, g, hg, _, _, _, _, hval⟩ := hok
  cases Option.some.inj (hg.symm.trans hfn)
  obtain ⟨⟨⟨ds, gs, before, hw, _⟩, hx⟩, hz⟩ := hpre
  refine (law (w.forCall tape i) w.heap.size i.args ds gs before hval (DataW.Whole.of_heap (w' := w.forCall tape i) (by rfl) hw) (hz.weights hw) (hX _ _ _ (by rfl) hx) hsh).mono ?_
  rintro e W' ⟨v, rfl, hp⟩
  exact ChangeSpec.post_blind hp
theorem tab_of {W : World} (h : laidMetH Tryd.prog lists W) : Lib.TabIs Tryd.prog W "internal/strconv.uint64pow10" .u64 Lib.pow10Tab := by
  have h1 := (laidMetH_iff.1 h).1
  have h2 := h1.filter fun x => x.1 == "internal/strconv.uint64pow10"
  have e : ((lists.filter fun x => x.2.handleName?.isNone).filter fun x => x.1 == "internal/strconv.uint64pow10") = [("internal/strconv.uint64pow10", Lib.tabData .u64 Lib.pow10Tab)] := by kernel_rfl
  rw [e] at h2
  exact Lib.tabIs_of_head (g := 1) (t := 174) (e := 154) (n := 20) (by kernel_rfl) (by kernel_rfl) (by kernel_rfl) (by kernel_rfl) (by kernel_rfl) (by kernel_rfl) h2
theorem glob_of {W : World} (h : laidMetH Tryd.prog lists W) (hs : W.ShapedOpen Tryd.prog) : Pv.GlobOK W := fun b p hb => by
  match b, hb with
  | 0, hb =>
    injection hb with hb; subst hb
    obtain ⟨m, hm⟩ := cell_of_shapedOpen_int (P := Tryd.prog) (w := W) (g := 0) (t := 3) (zero := #[.int .i64 0]) (k := .i64) hs (of_decide_eq_true (by kernel_rfl)) (by kernel_rfl) rfl (by kernel_rfl) (by kernel_rfl) (by kernel_rfl)
    unfold World.cell? at hm
    split at hm
    · rename_i cs T fz hc
      exact ⟨_, hc, cs, T, fz, m, rfl, by simpa using hm⟩
    · cases hm
  | 1, hb =>
    injection hb with hb; subst hb
    have ht := tab_of h
    unfold Lib.TabIs World.var? at ht
    rw [show Tryd.prog.globalNamed "internal/strconv.uint64pow10" = some 1 from by kernel_rfl] at ht
    simp only [Option.bind_some] at ht
    split at ht
    · rename_i cs T fz hc
      simp only [Option.some.injEq] at ht
      subst ht
      exact ⟨_, hc, T, fz, rfl⟩
    · cases ht
  | b + 2, hb => cases hb
end Go.Proofs.YtafnkpmoolbjjaaDoor
set_option linter.unusedSimpArgs false
set_option linter.unusedVariables false
namespace Go.Proofs.YtafnkpmoolbjjaaDoor
open Go.ChangeShapes Go.WideShapes Go.ChangeAt Go.RowKit
namespace Pv
theorem dec_int : ∀ ps, ShL [.int .i64] ps → ∃ x : Int, ps = eInt x ∧ inR .i64 x := fun ps h => by
  obtain ⟨p, qs, rfl, h1, h⟩ := shl_cons h
  cases shl_nil h
  obtain ⟨a, rfl, ha⟩ := sh_int h1
  exact ⟨a, rfl, ha⟩
theorem of_wfk {k : IntKind} {n : Int} (h : (Lit.int k n).wf = true) : inR k n := by
  simp only [Lit.wf, Bool.and_eq_true, decide_eq_true_eq] at h; exact h
theorem u16_of {n : Int} (h : inR .u16 n) : 0 ≤ n ∧ n ≤ 65535 := h
theorem u8_of {n : Int} (h : inR .u8 n) : 0 ≤ n ∧ n ≤ 255 := h
theorem dec_vi : ∀ ps, ShL [.int .i64, .int .i64, .int .i64, .int .i64] ps → ∃ r : Vi, ps = eVi r ∧ V64 r := fun ps h => by
  obtain ⟨p0, qs, rfl, h0, h⟩ := shl_cons h
  obtain ⟨p1, qs, rfl, h1, h⟩ := shl_cons h
  obtain ⟨p2, qs, rfl, h2, h⟩ := shl_cons h
  obtain ⟨p3, qs, rfl, h3, h⟩ := shl_cons h
  cases shl_nil h
  obtain ⟨a, rfl, ha⟩ := sh_int h0
  obtain ⟨b, rfl, hb⟩ := sh_int h1
  obtain ⟨c, rfl, hc⟩ := sh_int h2
  obtain ⟨d, rfl, hd⟩ := sh_int h3
  exact ⟨⟨a, b, c, d⟩, rfl, ha, hb, hc, hd⟩
theorem dec_cd : ∀ ps, ShL [.int .i64, .int .i64, .int .i64, .int .i64, .int .i64, .int .i64, .int .i64] ps → ∃ r : Cd, ps = eCd r ∧ True := fun ps h => by
  obtain ⟨p0, qs, rfl, h0, h⟩ := shl_cons h
  obtain ⟨p1, qs, rfl, h1, h⟩ := shl_cons h
  obtain ⟨p2, qs, rfl, h2, h⟩ := shl_cons h
  obtain ⟨p3, qs, rfl, h3, h⟩ := shl_cons h
  obtain ⟨p4, qs, rfl, h4, h⟩ := shl_cons h
  obtain ⟨p5, qs, rfl, h5, h⟩ := shl_cons h
  obtain ⟨p6, qs, rfl, h6, h⟩ := shl_cons h
  cases shl_nil h
  obtain ⟨a, rfl, _⟩ := sh_int h0
  obtain ⟨b, rfl, _⟩ := sh_int h1
  obtain ⟨c, rfl, _⟩ := sh_int h2
  obtain ⟨d, rfl, _⟩ := sh_int h3
  obtain ⟨e, rfl, _⟩ := sh_int h4
  obtain ⟨f, rfl, _⟩ := sh_int h5
  obtain ⟨g, rfl, _⟩ := sh_int h6
  exact ⟨⟨a, b, c, d, e, f, g⟩, rfl, trivial⟩
end Pv
set_option maxRecDepth 100000 in
theorem liftedReportTells (os : Os) (started : os.Started) (H : Type) (enc : TypeId × Value → H) :
    ReturnsInHanded {} Tryd.checked os 6 .any (fun w args => (Rows.reportTellsSpec.pre enc Tryd.prog Tryd.f6 Rows.reportTellsRow.domain false w args ∧ laidMetH Tryd.prog lists w) ∧ sizedMet enc Tryd.prog Tryd.f6 (OpenSpec.ofChange Rows.reportTellsSpec) false w args) (Rows.reportTellsSpec.post enc Tryd.prog Tryd.f6 false true false false) := by
  refine returns_door (C := Tryd.checked) (X := fun w _ => laidMetH Tryd.prog lists w) (fun _ _ _ hh h => h.of_heap hh) Tryd.own started (by kernel_rfl) Tryd.func6
    (ChangeSpec.witness_shaped (enc := enc) (C := Tryd.checked) (os := os) (X := fun w _ => laidMetH Tryd.prog lists w) false (World.laidAll Tryd.prog os lists) #[.slice none 0 0, .slice none 0 0, .slice none 0 0] 8 (World.laidAll_os _ _ _)
      (World.shaped_of_ZipB (by kernel_rfl) (by kernel_rfl)) (by kernel_rfl) (by kernel_rfl) (by kernel_rfl)
      (by rw [MakeChecks.laidMetH_plain _ _ _ (by kernel_rfl)]; exact laidMet_laidAll _ (by kernel_rfl) (by kernel_rfl))) ?_
  intro W base args ds gs before hval0 hW hsz0 hL hS
  have hval : ∀ (j : Nat) t v, Tryd.f6.params[j]? = some t → args[j]? = some v → Value.okWide Tryd.prog W .any base t v := hval0
  have hW' := hW
  obtain ⟨p, q, hA0, hV, rfl, hfz, hnd⟩ := hW
  have hA : DataW.TrodAll enc Tryd.prog W 0 (fun _ => true) true Tryd.f6.params.toList args.toList ds p := hA0
  rw [Tryd.params6] at hA hval
  have hgl : Pv.GlobOK W := glob_of hL hS
  have hsz : (DataW.weightsEach Tryd.prog (Tryd.f6.params.toList ++ (Rows.reportTellsSpec).plain.varTypes Tryd.prog) (ds ++ gs)).all (· ≤ reachBytes) = true := hsz0
  rw [Tryd.params6] at hsz
  obtain ⟨v0, vs0, d0, ds0, p0, q0, hargs, rfl, rfl, h0, r0⟩ := trodAll_cons hA
  obtain ⟨v1, vs1, d1, ds1, p1, q1, rfl, rfl, rfl, h1, r1⟩ := trodAll_cons r0
  obtain ⟨v2, vs2, d2, ds2, p2, q2, rfl, rfl, rfl, h2, r2⟩ := trodAll_cons r1
  obtain ⟨rfl, rfl, rfl⟩ := trodAll_nil r2
  obtain rfl : args = #[v0, v1, v2] := by cases args; simp_all
  obtain ⟨rfl, rfl⟩ := trodVars_none hV
  have k0 := h0
  have lt0 : ∀ x ∈ p0, x.block < W.heap.size := by obtain ⟨m, hm⟩ := k0; exact DataW.trod_lt m _ _ _ hm
  obtain ⟨a0, len0, cap0, rfl⟩ := okWide_slice Tryd.underlying22 (hval 0 22 v0 rfl rfl)
  obtain ⟨_, s0, g0⟩ := Pv.arg_one (m := 9) (s := .sl [.int .i64]) (by kernel_rfl) rfl k0
  obtain ⟨l0, e0, _, i0⟩ := Pv.sh_list hgl Pv.eInt (Pv.inR .i64) Pv.dec_int s0 g0
  have k1 := h1
  have lt1 : ∀ x ∈ p1, x.block < W.heap.size := by obtain ⟨m, hm⟩ := k1; exact DataW.trod_lt m _ _ _ hm
  obtain ⟨a1, len1, cap1, rfl⟩ := okWide_slice Tryd.underlying23 (hval 1 23 v1 rfl rfl)
  obtain ⟨_, s1, g1⟩ := Pv.arg_one (m := 9) (s := .sl [.int .i64, .int .i64, .int .i64, .int .i64]) (by kernel_rfl) rfl k1
  obtain ⟨l1, e1, _, i1⟩ := Pv.sh_list hgl Pv.eVi Pv.V64 Pv.dec_vi s1 g1
  have k2 := h2
  have lt2 : ∀ x ∈ p2, x.block < W.heap.size := by obtain ⟨m, hm⟩ := k2; exact DataW.trod_lt m _ _ _ hm
  obtain ⟨a2, len2, cap2, rfl⟩ := okWide_slice Tryd.underlying45 (hval 2 45 v2 rfl rfl)
  obtain ⟨_, s2, g2⟩ := Pv.arg_one (m := 9) (s := .sl [.sl [.int .i64, .int .i64, .int .i64, .int .i64, .int .i64, .int .i64, .int .i64]]) (by kernel_rfl) rfl k2
  obtain ⟨l2, e2, _, i2⟩ := Pv.sh_list2 hgl Pv.eCd (fun _ => True) Pv.dec_cd s2 g2
  have y2 := Pv.sized_len hsz (j := 2) rfl rfl Tryd.underlying45 k2 (of_decide_eq_true (by kernel_rfl)) e2
  have z2 : ∀ i, i < l2.length → (l2.getD i default).length ≤ 2513169434843 := fun i hi => by
    have := Pv.sized_len2 hsz (j := 2) rfl rfl Tryd.underlying45 Tryd.underlying46 (by kernel_rfl) k2 e2 hi (τ' := 1) (z' := 7) (N := (l2.getD i default).length) (f' := Pv.fl Pv.eCd (l2.getD i default)) rfl
    have hb : Tryd.prog.bytesOf 105 = 56 := by kernel_rfl
    rw [hb] at this; omega
  clear hA0 hval0
  refine (Pv.law_calls hgl (Pv.call6 l0 l1 l2 (fun i hi => (i1 _ (Pv.getD_mem hi)).1) (Nat.le_trans y2 (by decide)) (fun i hi => Nat.le_trans (z2 i hi) (by decide))) (Pv.RepL.cons_ e0 (Pv.RepL.cons_ e1 (Pv.RepL.cons_ e2 Pv.RepL.nil_)))).mono fun e W' ⟨he, bel⟩ => ?_
  subst he
  exact ⟨_, rfl, _, _, _, [], _, [], hW', trodAll_mk1 (shut_bool Tryd.underlying4 _), (trodAll_cons_mk (Below.trod Tryd.laidOut (by kernel_rfl) (of_decide_eq_true (by kernel_rfl)) k0 bel lt0) (trodAll_cons_mk (Below.trod Tryd.laidOut (by kernel_rfl) (of_decide_eq_true (by kernel_rfl)) k1 bel lt1) (trodAll_cons_mk (Below.trod Tryd.laidOut (by kernel_rfl) (of_decide_eq_true (by kernel_rfl)) k2 bel lt2) trodAll_mk0))), rfl, bel.frame _, fun h => by cases h⟩
theorem ReportTells_row : Rows.ReportTellsSaid :=
  OpenClaim.holds_of_wide 6 Tryd.f6 rfl rfl rfl rfl rfl rfl rfl ⟨rfl, rfl, rfl, rfl, rfl⟩ rfl rfl rfl rfl rfl (by kernel_rfl) Tryd.func6 (by kernel_rfl)
    (of_decide_eq_true (by kernel_rfl)) (by unfold Func.isWrapper; first | (rw [if_pos (by decide +kernel)]; kernel_rfl) | (rw [if_neg (by decide +kernel)]; exact ⟨rfl, rfl⟩))
    (fun os started H enc _ => liftedReportTells os started H enc)
theorem ReportTells_holds : Rows.ReportTellsCardSaid :=
  Claim7.holds_tied_plain_at .later [] [.data, .data, .data, .data, .pinned] true (true, "507094bedbd31923d04149a782bfd95681fdf41a785d6e66038a8ee408828c3f") false ReportTells_row (fun _ h => by cases h) (by kernel_rfl) (fun _ h => by cases h) reportTells_row_tie rfl ⟨rfl, rfl⟩ (by kernel_rfl) rfl
    (fun f fn hf hfn => by
      obtain rfl : f = 6 := Option.some.inj ((show Tryd.prog.funcNamed "hydrocascade/hydrocascadelaw42.ReportTells" = some 6 by kernel_rfl).symm.trans hf) |>.symm
      obtain rfl : fn = Tryd.f6 := (Option.some.inj (Tryd.func6.symm.trans hfn)).symm
      exact ⟨by kernel_rfl, fun j t ht => by
        rw [Tryd.params6] at ht
        have hm : t ∈ [22, 23, 45] := by simpa using Array.mem_of_getElem? ht
        have hall : ([22, 23, 45].all fun u => !Tryd.prog.wantsStandIn u) = true := by kernel_rfl
        exact (show Tryd.prog.wantsStandIn t = false by simpa using List.all_eq_true.1 hall t hm)⟩)
    (by kernel_rfl)
end Go.Proofs.YtafnkpmoolbjjaaDoor
