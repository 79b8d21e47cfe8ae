/- LAW FloodtableTells: the row and its card: the law returns true for every input, and the input reads as before; the listed tables read as the program's text lays them. -/
import Derived.Test.YtcfcmafmdpbjoaaDoorZtg
import Derived.Test.YtcfcmafmdpbjoaaDoorTie
import Derived.WalkKit
import Derived.ProofKit
import Derived.OpenShut
import Derived.ShutString
import Derived.ChangeOld
import Derived.Below
import Derived.LaidMore
import Derived.Lay
import Derived.LaidSub
import Derived.SevenTiedAt
import Derived.Shelf.Vars
import Derived.MakeChecks
import Derived.Test.YtcfcmafmdpbjoaaDoorZtf
import Derived.Test.YtcfcmafmdpbjoaaDoorZti
import Derived.Test.YtcfcmafmdpbjoaaDoorCards
/- LAW 24, THE ROWS: what the rows' premises on package variables give. -/
set_option linter.unusedSimpArgs false
set_option linter.unusedVariables false
namespace Go.Proofs.YtcfcmafmdpbjoaaDoor
open Go.ChangeShapes Go.WideShapes Go.ChangeAt Go.RowKit
theorem Tryd.own : ownKnob Tryd.prog.godebug = none := by kernel_rfl
theorem Tryd.laidOut : laidOutB Tryd.prog = true := by kernel_rfl
def lists : List (String × DataW Unit) := [("math/bits.deBruijn32tab", Rows.laid_math_bits_deBruijn32tab), ("math/bits.deBruijn64tab", Rows.laid_math_bits_deBruijn64tab), ("internal/strconv.uint64pow10", Rows.laid_internal_strconv_uint64pow10), ("unicode/utf8.acceptRanges", Rows.laid_unicode_utf8_acceptRanges), ("unicode/utf8.first", Rows.laid_unicode_utf8_first)]
theorem returns_door {H : Type} {enc : TypeId × Value → H} {a : Assume} {C : Checked} {os : Os} {f : FuncId} {fn : Func} {s : ChangeSpec} {conds : List PathCond} {apart fresh handsOn again : Bool} {X : World → Array Value → Prop}
    (hX : ∀ (w w' : World) (args : Array Value), w.heap = w'.heap → X w args → X w' args)
    (own : ownKnob C.prog.godebug = none) (started : os.Started) (noInit : C.prog.inits.idxOf? f = none) (hfn : C.prog.funcs[f]? = some fn)
    (witness : ∃ (w : World) (tape : Tape) (i : Input), w.os = os ∧ (w.forCall tape i).Shaped C.prog ∧ i.vars = [] ∧ Input.okWide C.prog (w.forCall tape i) .any w.heap.size f i ∧
      ((s.pre enc C.prog fn conds apart (w.forCall tape i).memory i.args ∧ X (w.forCall tape i).memory i.args) ∧ sizedMet enc C.prog fn (OpenSpec.ofChange s) apart (w.forCall tape i).memory i.args) ∧ a.holds C.prog (lone (Frame.enter C.prog f i.args .normal) [] (w.forCall tape i)))
    (law : ∀ (W : World) (base : Nat) (args : Array Value) (ds gs : List (DataW H)) (before : List MemPlace), (∀ (j : Nat) t v, fn.params[j]? = some t → args[j]? = some v → Value.okWide C.prog W .any base t v) →
      DataW.Whole enc C.prog fn.params.toList s.vars apart W args.toList ds gs before → (DataW.weightsEach C.prog (fn.params.toList ++ s.plain.varTypes C.prog) (ds ++ gs)).all (· ≤ reachBytes) = true → X W args → W.ShapedOpen C.prog →
      Calls C.prog f args W fun e W' => ∃ v, e = .returned v ∧ s.post enc C.prog fn apart fresh handsOn again W args v W') :
    ReturnsInHanded a C os f .any (fun w args => (s.pre enc C.prog fn conds apart w args ∧ X w args) ∧ sizedMet enc C.prog fn (OpenSpec.ofChange s) apart w args) (s.post enc C.prog fn apart fresh handsOn again) := by
  refine returnsInHanded_of_calls own started noInit witness fun w tape i _ hsh _ hok hpre _ => ?_
  obtain ⟨_, _, _, g, hg, _, _, _, _, hval⟩ := hok
  cases Option.some.inj (hg.symm.trans hfn)
  obtain ⟨⟨⟨ds, gs, before, hw, _⟩, hx⟩, hz⟩ := hpre
  refine (law (w.forCall tape i) w.heap.size i.args ds gs before hval (DataW.Whole.of_heap (w' := w.forCall tape i) (by rfl) hw) (hz.weights hw) (hX _ _ _ (by rfl) hx) hsh).mono ?_
  rintro e W' ⟨v, rfl, hp⟩
  exact ChangeSpec.post_blind hp
theorem tab_of {W : World} (h : laidMetH Tryd.prog lists W) : Lib.TabIs Tryd.prog W "internal/strconv.uint64pow10" .u64 Lib.pow10Tab := by
  have h1 := (laidMetH_iff.1 h).1
  have h2 := h1.filter fun x => x.1 == "internal/strconv.uint64pow10"
  have e : ((lists.filter fun x => x.2.handleName?.isNone).filter fun x => x.1 == "internal/strconv.uint64pow10") = [("internal/strconv.uint64pow10", Lib.tabData .u64 Lib.pow10Tab)] := by kernel_rfl
  rw [e] at h2
  exact Lib.tabIs_of_head (g := 1) (t := 127) (e := 113) (n := 20) (by kernel_rfl) (by kernel_rfl) (by kernel_rfl) (by kernel_rfl) (by kernel_rfl) (by kernel_rfl) h2
theorem glob_of {W : World} (h : laidMetH Tryd.prog lists W) (hs : W.ShapedOpen Tryd.prog) : Pv.GlobOK W := fun b p hb => by
  match b, hb with
  | 0, hb =>
    injection hb with hb; subst hb
    obtain ⟨m, hm⟩ := cell_of_shapedOpen_int (P := Tryd.prog) (w := W) (g := 0) (t := 3) (zero := #[.int .i64 0]) (k := .i64) hs (of_decide_eq_true (by kernel_rfl)) (by kernel_rfl) rfl (by kernel_rfl) (by kernel_rfl) (by kernel_rfl)
    unfold World.cell? at hm
    split at hm
    · rename_i cs T fz hc
      exact ⟨_, hc, cs, T, fz, m, rfl, by simpa using hm⟩
    · cases hm
  | 1, hb =>
    injection hb with hb; subst hb
    have ht := tab_of h
    unfold Lib.TabIs World.var? at ht
    rw [show Tryd.prog.globalNamed "internal/strconv.uint64pow10" = some 1 from by kernel_rfl] at ht
    simp only [Option.bind_some] at ht
    split at ht
    · rename_i cs T fz hc
      simp only [Option.some.injEq] at ht
      subst ht
      exact ⟨_, hc, T, fz, rfl⟩
    · cases ht
  | b + 2, hb => cases hb
end Go.Proofs.YtcfcmafmdpbjoaaDoor
/- LAW 24, THE ROWS: a table that came in. -/
set_option linter.unusedSimpArgs false
set_option linter.unusedVariables false
namespace Go.Proofs.YtcfcmafmdpbjoaaDoor
namespace Pv
open Go.RowKit Go.ChangeShapes
theorem dec_int1 : ∀ ps, ShL [.int .i64] ps → ∃ x : Int, ps = eInt x ∧ inR .i64 x := fun ps h => by
  obtain ⟨p, qs, rfl, h1, h⟩ := shl_cons h
  cases shl_nil h
  obtain ⟨a, rfl, ha⟩ := sh_int h1
  exact ⟨a, rfl, ha⟩
def ftSh : List Sh := [.sl [.int .i64], .sl [.int .i64], .sl [.sl [.int .i64]]]
structure FTLen (t : FT) : Prop where
  lv : t.lv.length ≤ 140737488351232
  inf : t.inf.length ≤ 140737488351232
  rel : t.rel.length ≤ 140737488351232
  row : ∀ i, i < t.rel.length → (t.rel.getD i default).length ≤ 140737488351232
theorem ft_open {H : Type} {enc : TypeId × Value → H} {W : World} {sp : Nat → Bool} {held : Bool} (hgl : GlobOK W) {ts : List TypeId} {ds : List (DataW H)} (hz : (DataW.weightsEach Tryd.prog ts ds).all (· ≤ reachBytes) = true)
    {j : Nat} {d : DataW H} {v : Value} {p : List MemPlace} (ht : ts[j]? = some 25) (hd : ds[j]? = some d) (h : DataW.Trod enc Tryd.prog W 0 sp held 25 v d p) {qs : List PV} (hs : ShL ftSh qs) (he : Rep (cx0 W) gh0 W (.agg qs) v) :
    ∃ t : FT, Rep (cx0 W) gh0 W (.agg (eFT 1 1 t)) v ∧ FTLen t := by
  obtain ⟨q0, qs, rfl, g0, hs⟩ := shl_cons hs
  obtain ⟨q1, qs, rfl, g1, hs⟩ := shl_cons hs
  obtain ⟨q2, qs, rfl, g2, hs⟩ := shl_cons hs
  cases shl_nil hs
  obtain ⟨us, hv, hu, h1⟩ := he.agg_inv
  obtain ⟨u0, us, rfl, r0, hu⟩ := hu.cons_inv
  obtain ⟨u1, us, rfl, r1, hu⟩ := hu.cons_inv
  obtain ⟨u2, us, rfl, r2, hu⟩ := hu.cons_inv
  cases hu.nil_inv
  obtain ⟨l0, e0, _, _⟩ := sh_list hgl eInt (inR .i64) dec_int1 g0 r0
  obtain ⟨l1, e1, _, _⟩ := sh_list hgl eInt (inR .i64) dec_int1 g1 r1
  obtain ⟨G, e2, _, _⟩ := sh_list2 hgl eInt (inR .i64) dec_int1 g2 r2
  have hR : RepL (cx0 W) gh0 W (eFT 1 1 ⟨l0, l1, G⟩) [u0, u1, u2] := RepL.cons_ e0 (RepL.cons_ e1 (RepL.cons_ e2 RepL.nil_))
  refine ⟨⟨l0, l1, G⟩, by rw [hv]; exact .agg _ _ hR.1 h1 hR.2, ?_⟩
  subst hv
  obtain ⟨fuel, hf⟩ := h
  obtain ⟨xs, n, _, hx0, _, hxl, hx⟩ := DataW.trod_struct Tryd.underlying25 hf
  have hd0 : d = .agg (xs.map (·.1)) := (Prod.mk.inj hx0).1
  subst hd0
  have c22 : Tryd.prog.cellsOf 22 = 1 := by kernel_rfl
  have c23 : Tryd.prog.cellsOf 23 = 1 := by kernel_rfl
  have hz' : (DataW.weightsEach Tryd.prog [22, 22, 23] (xs.map (·.1))).all (· ≤ reachBytes) = true := List.all_eq_true.2 fun m hm =>
    List.all_eq_true.1 hz m (DataW.weights_mem_each ht hd m (by simpa [DataW.weights, Tryd.underlying25] using hm))
  have hlen : 3 = xs.length := by rw [hxl]; rfl
  have y0 : DataW.trod enc Tryd.prog W 0 sp held n 22 ((([u0, u1, u2] : List Value).drop 0).take (Tryd.prog.cellsOf 22)) = xs[0]? := hx 0 _ rfl
  have y1 : DataW.trod enc Tryd.prog W 0 sp held n 22 ((([u0, u1, u2] : List Value).drop 1).take (Tryd.prog.cellsOf 22)) = xs[1]? := hx 1 _ rfl
  have y2 : DataW.trod enc Tryd.prog W 0 sp held n 23 ((([u0, u1, u2] : List Value).drop 2).take (Tryd.prog.cellsOf 23)) = xs[2]? := hx 2 _ rfl
  rw [c22] at y0 y1
  rw [c23] at y2
  obtain ⟨a0, n0, _, rfl, _⟩ := sl_rows e0
  obtain ⟨a1, n1, _, rfl, _⟩ := sl_rows e1
  obtain ⟨a2, n2, _, rfl, _⟩ := sl_rows e2
  have x0 : xs[0]? = some (xs[0]'(by omega)) := List.getElem?_eq_getElem (by omega)
  have x1 : xs[1]? = some (xs[1]'(by omega)) := List.getElem?_eq_getElem (by omega)
  have x2 : xs[2]? = some (xs[2]'(by omega)) := List.getElem?_eq_getElem (by omega)
  rw [x0] at y0
  rw [x1] at y1
  rw [x2] at y2
  have b3 : 0 < Tryd.prog.bytesOf 3 := of_decide_eq_true (by kernel_rfl)
  have b22 : 0 < Tryd.prog.bytesOf 22 := of_decide_eq_true (by kernel_rfl)
  refine ⟨?_, ?_, ?_, fun i hi => ?_⟩
  · exact sized_len hz' (j := 0) rfl (by rw [List.getElem?_map, x0]; rfl) Tryd.underlying22 (⟨n, y0⟩ : DataW.Trod enc Tryd.prog W 0 sp held 22 (.slice a0 l0.length n0) _ _) b3 e0
  · exact sized_len hz' (j := 1) rfl (by rw [List.getElem?_map, x1]; rfl) Tryd.underlying22 (⟨n, y1⟩ : DataW.Trod enc Tryd.prog W 0 sp held 22 (.slice a1 l1.length n1) _ _) b3 e1
  · exact sized_len hz' (j := 2) rfl (by rw [List.getElem?_map, x2]; rfl) Tryd.underlying23 (⟨n, y2⟩ : DataW.Trod enc Tryd.prog W 0 sp held 23 (.slice a2 G.length n2) _ _) b22 e2
  · have hh := sized_len2 hz' (j := 2) rfl (by rw [List.getElem?_map, x2]; rfl) Tryd.underlying23 Tryd.underlying22 c22 (⟨n, y2⟩ : DataW.Trod enc Tryd.prog W 0 sp held 23 (.slice a2 G.length n2) _ _) e2 hi (f' := fl eInt (G.getD i default)) (N := (G.getD i default).length) rfl
    have hb : Tryd.prog.bytesOf 3 = 8 := by kernel_rfl
    rw [hb] at hh
    show (G.getD i default).length ≤ _
    omega
end Pv
end Go.Proofs.YtcfcmafmdpbjoaaDoor
set_option linter.unusedSimpArgs false
set_option linter.unusedVariables false
namespace Go.Proofs.YtcfcmafmdpbjoaaDoor
open Go.ChangeShapes Go.WideShapes Go.ChangeAt Go.RowKit
namespace Pv
theorem dec_int : ∀ ps, ShL [.int .i64] ps → ∃ x : Int, ps = eInt x ∧ inR .i64 x := fun ps h => by
  obtain ⟨p, qs, rfl, h1, h⟩ := shl_cons h
  cases shl_nil h
  obtain ⟨a, rfl, ha⟩ := sh_int h1
  exact ⟨a, rfl, ha⟩
theorem of_wfk {k : IntKind} {n : Int} (h : (Lit.int k n).wf = true) : inR k n := by
  simp only [Lit.wf, Bool.and_eq_true, decide_eq_true_eq] at h; exact h
theorem u16_of {n : Int} (h : inR .u16 n) : 0 ≤ n ∧ n ≤ 65535 := h
theorem u8_of {n : Int} (h : inR .u8 n) : 0 ≤ n ∧ n ≤ 255 := h
end Pv
set_option maxRecDepth 100000 in
theorem liftedFloodtableTells (os : Os) (started : os.Started) (H : Type) (enc : TypeId × Value → H) :
    ReturnsInHanded {} Tryd.checked os 6 .any (fun w args => (Rows.floodtableTellsSpec.pre enc Tryd.prog Tryd.f6 Rows.floodtableTellsRow.domain false w args ∧ laidMetH Tryd.prog lists w) ∧ sizedMet enc Tryd.prog Tryd.f6 (OpenSpec.ofChange Rows.floodtableTellsSpec) false w args) (Rows.floodtableTellsSpec.post enc Tryd.prog Tryd.f6 false true false false) := by
  refine returns_door (C := Tryd.checked) (X := fun w _ => laidMetH Tryd.prog lists w) (fun _ _ _ hh h => h.of_heap hh) Tryd.own started (by kernel_rfl) Tryd.func6
    (ChangeSpec.witness_shaped (enc := enc) (C := Tryd.checked) (os := os) (X := fun w _ => laidMetH Tryd.prog lists w) false (World.laidAll Tryd.prog os lists) #[.slice none 0 0, .agg #[.slice none 0 0, .slice none 0 0, .slice none 0 0], .int .i64 0, .int .i64 0, .int .i64 0, .int .i64 0] 8 (World.laidAll_os _ _ _)
      (World.shaped_of_ZipB (by kernel_rfl) (by kernel_rfl)) (by kernel_rfl) (by kernel_rfl) (by kernel_rfl)
      (by rw [MakeChecks.laidMetH_plain _ _ _ (by kernel_rfl)]; exact laidMet_laidAll _ (by kernel_rfl) (by kernel_rfl))) ?_
  intro W base args ds gs before hval0 hW hsz0 hL hS
  have hval : ∀ (j : Nat) t v, Tryd.f6.params[j]? = some t → args[j]? = some v → Value.okWide Tryd.prog W .any base t v := hval0
  have hW' := hW
  obtain ⟨p, q, hA0, hV, rfl, hfz, hnd⟩ := hW
  have hA : DataW.TrodAll enc Tryd.prog W 0 (fun _ => true) true Tryd.f6.params.toList args.toList ds p := hA0
  rw [Tryd.params6] at hA hval
  have hgl : Pv.GlobOK W := glob_of hL hS
  have hsz : (DataW.weightsEach Tryd.prog (Tryd.f6.params.toList ++ (Rows.floodtableTellsSpec).plain.varTypes Tryd.prog) (ds ++ gs)).all (· ≤ reachBytes) = true := hsz0
  rw [Tryd.params6] at hsz
  obtain ⟨v0, vs0, d0, ds0, p0, q0, hargs, rfl, rfl, h0, r0⟩ := trodAll_cons hA
  obtain ⟨v1, vs1, d1, ds1, p1, q1, rfl, rfl, rfl, h1, r1⟩ := trodAll_cons r0
  obtain ⟨v2, vs2, d2, ds2, p2, q2, rfl, rfl, rfl, h2, r2⟩ := trodAll_cons r1
  obtain ⟨v3, vs3, d3, ds3, p3, q3, rfl, rfl, rfl, h3, r3⟩ := trodAll_cons r2
  obtain ⟨v4, vs4, d4, ds4, p4, q4, rfl, rfl, rfl, h4, r4⟩ := trodAll_cons r3
  obtain ⟨v5, vs5, d5, ds5, p5, q5, rfl, rfl, rfl, h5, r5⟩ := trodAll_cons r4
  obtain ⟨rfl, rfl, rfl⟩ := trodAll_nil r5
  obtain rfl : args = #[v0, v1, v2, v3, v4, v5] := by cases args; simp_all
  obtain ⟨rfl, rfl⟩ := trodVars_none hV
  have k0 := h0
  have lt0 : ∀ x ∈ p0, x.block < W.heap.size := by obtain ⟨m, hm⟩ := k0; exact DataW.trod_lt m _ _ _ hm
  obtain ⟨a0, len0, cap0, rfl⟩ := okWide_slice Tryd.underlying22 (hval 0 22 v0 rfl rfl)
  obtain ⟨_, s0, g0⟩ := Pv.arg_one (m := 9) (s := .sl [.int .i64]) (by kernel_rfl) rfl k0
  obtain ⟨l0, e0, _, i0⟩ := Pv.sh_list hgl Pv.eInt (Pv.inR .i64) Pv.dec_int s0 g0
  have k1 := h1
  have lt1 : ∀ x ∈ p1, x.block < W.heap.size := by obtain ⟨m, hm⟩ := k1; exact DataW.trod_lt m _ _ _ hm
  obtain ⟨c1, rfl, _⟩ := okWide_struct Tryd.underlying25 (hval 1 25 v1 rfl rfl)
  obtain ⟨_, s1, e1'⟩ := Pv.arg_agg (m := 9) (shs := Pv.ftSh) (by kernel_rfl) k1
  obtain ⟨l1, e1, z1⟩ := Pv.ft_open hgl hsz (j := 1) rfl rfl k1 s1 e1'
  obtain ⟨l2, rfl, rfl, rfl, w2⟩ := open_int Tryd.underlying3 (hval 2 3 v2 rfl rfl) h2
  have i2 := Pv.of_wfk w2
  have e2 : Pv.Rep (Pv.cx0 W) Pv.gh0 W (.int .i64 l2) (.int .i64 l2) := .int _ _
  obtain ⟨l3, rfl, rfl, rfl, w3⟩ := open_int Tryd.underlying3 (hval 3 3 v3 rfl rfl) h3
  have i3 := Pv.of_wfk w3
  have e3 : Pv.Rep (Pv.cx0 W) Pv.gh0 W (.int .i64 l3) (.int .i64 l3) := .int _ _
  obtain ⟨l4, rfl, rfl, rfl, w4⟩ := open_int Tryd.underlying3 (hval 4 3 v4 rfl rfl) h4
  have i4 := Pv.of_wfk w4
  have e4 : Pv.Rep (Pv.cx0 W) Pv.gh0 W (.int .i64 l4) (.int .i64 l4) := .int _ _
  obtain ⟨l5, rfl, rfl, rfl, w5⟩ := open_int Tryd.underlying3 (hval 5 3 v5 rfl rfl) h5
  have i5 := Pv.of_wfk w5
  have e5 : Pv.Rep (Pv.cx0 W) Pv.gh0 W (.int .i64 l5) (.int .i64 l5) := .int _ _
  clear hA0 hval0
  refine (Pv.law_calls hgl (Pv.call6 l0 l1 l2 l3 l4 l5 ⟨Nat.le_trans z1.lv (by decide), Nat.le_trans z1.inf (by decide), Nat.le_trans z1.rel (by decide), fun i hi => Nat.le_trans (z1.row i hi) (by decide)⟩) (Pv.RepL.cons_ e0 (Pv.RepL.cons_ e1 (Pv.RepL.cons_ e2 (Pv.RepL.cons_ e3 (Pv.RepL.cons_ e4 (Pv.RepL.cons_ e5 Pv.RepL.nil_))))))).mono fun e W' ⟨he, bel⟩ => ?_
  subst he
  exact ⟨_, rfl, _, _, _, [], _, [], hW', trodAll_mk1 (shut_bool Tryd.underlying4 _), (trodAll_cons_mk (Below.trod Tryd.laidOut (by kernel_rfl) (of_decide_eq_true (by kernel_rfl)) k0 bel lt0) (trodAll_cons_mk (Below.trod Tryd.laidOut (by kernel_rfl) (of_decide_eq_true (by kernel_rfl)) k1 bel lt1) (trodAll_cons_mk (shut_int Tryd.underlying3 w2) (trodAll_cons_mk (shut_int Tryd.underlying3 w3) (trodAll_cons_mk (shut_int Tryd.underlying3 w4) (trodAll_cons_mk (shut_int Tryd.underlying3 w5) trodAll_mk0)))))), rfl, bel.frame _, fun h => by cases h⟩
theorem FloodtableTells_row : Rows.FloodtableTellsSaid :=
  OpenClaim.holds_of_wide 6 Tryd.f6 rfl rfl rfl rfl rfl rfl rfl ⟨rfl, rfl, rfl, rfl, rfl⟩ rfl rfl rfl rfl rfl (by kernel_rfl) Tryd.func6 (by kernel_rfl)
    (of_decide_eq_true (by kernel_rfl)) (by unfold Func.isWrapper; first | (rw [if_pos (by decide +kernel)]; kernel_rfl) | (rw [if_neg (by decide +kernel)]; exact ⟨rfl, rfl⟩))
    (fun os started H enc _ => liftedFloodtableTells os started H enc)
theorem FloodtableTells_holds : Rows.FloodtableTellsCardSaid :=
  Claim7.holds_tied_plain_at .later [] [.data, .data, .data, .data, .pinned] true (true, "3937ca1b52c62e205c1e10e3e2bda9a3a11ee05418c7664ceaa241be95be7432") false FloodtableTells_row (fun _ h => by cases h) (by kernel_rfl) (fun _ h => by cases h) floodtableTells_row_tie rfl ⟨rfl, rfl⟩ (by kernel_rfl) rfl
    (fun f fn hf hfn => by
      obtain rfl : f = 6 := Option.some.inj ((show Tryd.prog.funcNamed "hydrocascade/hydrocascadelaw24.FloodtableTells" = some 6 by kernel_rfl).symm.trans hf) |>.symm
      obtain rfl : fn = Tryd.f6 := (Option.some.inj (Tryd.func6.symm.trans hfn)).symm
      exact ⟨by kernel_rfl, fun j t ht => by
        rw [Tryd.params6] at ht
        have hm : t ∈ [22, 25, 3, 3, 3, 3] := by simpa using Array.mem_of_getElem? ht
        have hall : ([22, 25, 3, 3, 3, 3].all fun u => !Tryd.prog.wantsStandIn u) = true := by kernel_rfl
        exact (show Tryd.prog.wantsStandIn t = false by simpa using List.all_eq_true.1 hall t hm)⟩)
    (by kernel_rfl)
end Go.Proofs.YtcfcmafmdpbjoaaDoor
