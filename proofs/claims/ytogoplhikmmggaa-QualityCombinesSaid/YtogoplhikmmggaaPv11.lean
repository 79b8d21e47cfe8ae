/- ALL OPERATIONS BUT CALLS TOGETHER. -/
import Derived.Test.YtogoplhikmmggaaPv10
set_option linter.unusedSimpArgs false
set_option linter.unusedVariables false
namespace Go.Proofs.Ytogoplhikmmggaa
namespace Pv
open Go.RowKit

section
variable {P : Program} {X : Cx} {γ : Gh} {w : World} {st st' : Nat → Option SE} {fr : Nat → Option PV} {ρ : Operand → Value}

theorem stripL_sound : ∀ {vs : List PV} {us : List Value}, RepL X γ w vs us → allP (stripL true vs).1 → RepL X γ w (stripL true vs).2 us
  | [], us, h, _ => h
  | p :: ps, us, h, ha => by
    obtain ⟨u, us', rfl, hu, hus⟩ := h.cons_inv
    cases p with
    | cnd g p =>
      simp only [stripL, allP] at ha ⊢
      exact RepL.cons_ (hu.cnd_inv (ha.1 trivial)) (stripL_sound hus ha.2)
    | _ => exact RepL.cons_ hu (stripL_sound hus ha)
theorem stripS_sound {vs : List PV} {us : List Value} (h : RepL X γ w vs us) (ha : allP (stripS true vs).1) : RepL X γ w (stripS true vs).2 us := by
  unfold stripS at *
  cases hc : vs.any PV.isCnd with
  | false => exact h
  | true => rw [hc] at ha; exact stripL_sound h ha

theorem op1 (H : Opd X γ w fr ρ) {x : Operand} {y : A} {vs : List PV} (hx : arg x = some y) (hv : valL fr [y] = some vs) : RepL X γ w vs [ρ x] := by
  have := args_rep H (xs := [x]) (ys := [y]) (ps := vs) (by simp [mapO, hx]) hv
  simpa using this
theorem opT1 (H : Opd X γ w fr ρ) {t : TypeId} {x : Operand} {y : A} {vs : List PV} (hx : argT P t x = some y) (hv : valL fr [y] = some vs) : RepL X γ w vs [ρ x] := by
  have := argsT_rep (P := P) (α := TypeId × Operand) H (fun p => p.1) (fun p => p.2) (xs := [(t, x)]) (ys := [y]) (ps := vs) (by simp [mapO, hx]) hv
  simpa using this
theorem op2 (H : Opd X γ w fr ρ) {x x' : Operand} {y y' : A} {vs : List PV} (hx : arg x = some y) (hx' : arg x' = some y') (hv : valL fr [y, y'] = some vs) : RepL X γ w vs [ρ x, ρ x'] := by
  have := args_rep H (xs := [x, x']) (ys := [y, y']) (ps := vs) (by simp [mapO, hx, hx']) hv
  simpa using this
theorem op3 (H : Opd X γ w fr ρ) {x x' x'' : Operand} {y y' y'' : A} {vs : List PV} (hx : arg x = some y) (hx' : arg x' = some y') (hx'' : arg x'' = some y'') (hv : valL fr [y, y', y''] = some vs) : RepL X γ w vs [ρ x, ρ x', ρ x''] := by
  have := args_rep H (xs := [x, x', x'']) (ys := [y, y', y'']) (ps := vs) (by simp [mapO, hx, hx', hx'']) hv
  simpa using this
theorem opX2 (H : Opd X γ w fr ρ) {t : TypeId} {x x' : Operand} {y y' : A} {vs : List PV} (hx : arg x = some y) (hx' : argT P t x' = some y') (hv : valL fr [y, y'] = some vs) : RepL X γ w vs [ρ x, ρ x'] := by
  simp only [valL] at hv
  split at hv
  · rename_i p ps hp hps
    injection hv with hv; subst hv
    exact RepL.cons_ (arg_rep H hx hp) (opT1 H hx' hps)
  · cases hv
theorem opT2 (H : Opd X γ w fr ρ) {t : TypeId} {x x' : Operand} {y y' : A} {vs : List PV} (hx : argT P t x = some y) (hx' : argT P t x' = some y') (hv : valL fr [y, y'] = some vs) : RepL X γ w vs [ρ x, ρ x'] := by
  simp only [valL] at hv
  split at hv
  · rename_i p ps hp hps
    injection hv with hv; subst hv
    exact RepL.cons_ (argT_rep H hx hp) (opT1 H hx' hps)
  · cases hv

theorem parts_rep (H : Opd X γ w fr ρ) {places : List (Nat × Nat × TypeId)} : ∀ {ps : List (Nat × Operand)} {qs : List (Nat × Nat × A)} {vs : List PV}, parts P places ps = some qs → valL fr (qs.map (·.2.2)) = some vs → RepL X γ w vs (ps.map fun x => ρ x.2)
  | [], qs, vs, h, hv => by
    simp only [parts, Option.some.injEq] at h; subst h
    simp only [List.map_nil, valL, Option.some.injEq] at hv; subst hv
    exact RepL.nil_
  | (i, x) :: ps, qs, vs, h, hv => by
    simp only [parts] at h
    split at h
    · rename_i off n t r' hpi hpr
      obtain ⟨a, ha, rfl⟩ := Option.map_eq_some_iff.1 h
      simp only [List.map_cons, valL] at hv
      split at hv
      · rename_i p qs' hp hps
        injection hv with hv; subst hv
        exact RepL.cons_ (argT_rep H ha hp) (parts_rep H hpr hps)
      · cases hv
    · cases h

theorem mapM_sizes : ∀ (fs : List Field), fs.all (fun f => (P.info? f.type).isSome) = true → (fs.mapM (fun f => do pure (f.offset, ← sizeOf f.type)) : Sem (List (Nat × Nat))).run P w = .ok (fs.map fun f => (f.offset, P.cellsOf f.type)) w
  | [], _ => by simp
  | f :: fs, h => by
    simp only [List.all_cons, Bool.and_eq_true] at h
    obtain ⟨i, hi⟩ := Option.isSome_iff_exists.1 h.1
    have ih := mapM_sizes fs h.2
    simp only [List.mapM_cons, Sem.run_bind, run_sizeOf w hi, Result.andThen_ok, Sem.run_pure, ih, List.map_cons]
theorem amapM_sizes (fs : Array Field) (h : fs.toList.all (fun f => (P.info? f.type).isSome) = true) : (fs.mapM (fun f => do pure (f.offset, ← sizeOf f.type)) : Sem (Array (Nat × Nat))).run P w = .ok (fs.toList.map fun f => (f.offset, P.cellsOf f.type)).toArray w := by
  rw [Array.mapM_eq_mapM_toList, Sem.run_map, mapM_sizes _ h]; rfl

theorem guard_int (op : BinOp) (t : TypeId) (x y : Operand) (k : IntKind) (a : Int) (v : Value) : (eqGuard op t x y (.int k a) v).run P w = .ok () w := by
  cases op <;> simp [eqGuard]
theorem guard_bool (op : BinOp) (t : TypeId) (x y : Operand) (a : Bool) (v : Value) : (eqGuard op t x y (.bool a) v).run P w = .ok () w := by
  cases op <;> simp [eqGuard]
theorem guard_str (op : BinOp) (t : TypeId) (x y : Operand) (a : ByteArray) (v : Value) : (eqGuard op t x y (.string a) v).run P w = .ok () w := by
  cases op <;> simp [eqGuard]

theorem bib_sound {t : TypeId} {a b : Bool} (neg : Bool) (ht : P.underlying t = some .bool) : (binOp (if neg then .neq else .eql) t (.bool a) (.bool b)).run P w = .ok (.bool (if neg then !(a == b) else (a == b))) w := by
  have h : (Op.equalIn 10000 t (.bool a) (.bool b)).run P w = .ok (a == b) w := run_equalIn_bool w 9999 t a b ht
  cases neg <;> simp [binOp, Op.equal, Op.maxDepth, h]

/-- Shapes of lists of values. -/
theorem rl1 {p : PV} {u : Value} (h : RepL X γ w [p] [u]) : Rep X γ w p u := h.2 0 p u rfl rfl
theorem rl2 {p q : PV} {u v : Value} (h : RepL X γ w [p, q] [u, v]) : Rep X γ w p u ∧ Rep X γ w q v := ⟨h.2 0 p u rfl rfl, h.2 1 q v rfl rfl⟩

theorem of_map {α β : Type} {o : Option α} {f : α → β} {b : β} (h : o.map f = some b) : ∃ a, o = some a ∧ f a = b := Option.map_eq_some_iff.1 h

theorem fst_zero {E : Eff} {d : Nat} (h : E.nw = []) (hn : newSt d E.kill E.rm E.wr E.nw st = some st') : newSt 0 E.kill E.rm E.wr E.nw st = some st' := by
  rw [newSt_eq, h] at hn ⊢; exact hn

theorem op_sound {wr : Bool} {o : Oper} {i : I} {vs0 : List PV} {cs : List SE} {E : Eff} {d : Nat} {S : FuncId → List PV → List SE → CallRes → Prop} {c : CallRes} (hc : compI P wr o = some i) (hnc : i.isCall = false) (H : Opd X γ w fr ρ) (hst : RepSt X γ w st) (hX : ∀ b, X.as b ∨ X.ls b → b < w.heap.size)
    (hlo : ∀ r ge b τ e z n f, γ r = some ge → st r = some (.row τ e z n f) → ge.blk = some b → X.lo ≤ b)
    (hv : valL fr i.opr = some vs0) (hsd : allP (stripS true vs0).1) (hcs : getL st (i.acc (stripS true vs0).2) = some cs)
    (hE : eff S c d i (stripS true vs0).2 (i.acc (stripS true vs0).2) cs = some E) (hs : allP E.side) (hnew : newSt d E.kill E.rm E.wr E.nw st = some st') : Snd P X γ w st E st' (execOp ρ o) := by
  unfold compI at hc
  split at hc
  · -- move
    rename_i x hop
    obtain ⟨y, hy, rfl⟩ := of_map hc
    have hR := stripS_sound (opT1 H hy hv) hsd
    generalize (stripS true vs0).2 = vs at *
    unfold execOp; rw [hop]
    simp only [eff] at hE
    unfold eMv at hE
    split at hE
    · rename_i r lo h τ e z n f
      injection hE with hE; subst hE
      have hcs' : getL st [r] = some [.row τ e z n f] := by simpa [I.acc, PV.topV] using hcs
      obtain ⟨e0, he0, he1⟩ := getL_one hcs'
      injection he1 with he1 _
      subst he1
      exact mv_vw_sound hst hX (rl1 hR) he0 _ rfl rfl rfl rfl rfl hnew
    · cases hE
    · injection hE with hE; subst hE
      exact Snd.val hst (Eff.still_pure _) (rl1 hR) hnew
    · cases hE
  · -- assign
    rename_i x hop
    obtain ⟨y, hy, rfl⟩ := of_map hc
    have hR := stripS_sound (opT1 H hy hv) hsd
    generalize (stripS true vs0).2 = vs at *
    unfold execOp; rw [hop]
    simp only [eff] at hE
    unfold eMv at hE
    split at hE
    · rename_i r lo h τ e z n f
      injection hE with hE; subst hE
      have hcs' : getL st [r] = some [.row τ e z n f] := by simpa [I.acc, PV.topV] using hcs
      obtain ⟨e0, he0, he1⟩ := getL_one hcs'
      injection he1 with he1 _
      subst he1
      exact mv_vw_sound hst hX (rl1 hR) he0 _ rfl rfl rfl rfl rfl hnew
    · cases hE
    · injection hE with hE; subst hE
      exact Snd.val hst (Eff.still_pure _) (rl1 hR) hnew
    · cases hE
  · -- pick
    rename_i c0 a0 b0 hop
    split at hc
    · rename_i c' a' b' h1 h2 h3
      injection hc with hc; subst hc
      have hR := stripS_sound (op3 H h1 h2 h3 hv) hsd
      generalize (stripS true vs0).2 = vs at *
      unfold execOp; rw [hop]
      simp only [eff] at hE
      unfold ePick at hE
      split at hE
      · rename_i b p q
        have hb := hR.2 0 _ _ rfl rfl
        have hp := hR.2 1 _ _ rfl rfl
        have hq := hR.2 2 _ _ rfl rfl
        have hbv := hb.bool_inv
        obtain ⟨h4, h5⟩ := pick_sound hp hq hE hs
        have hm : ((do pure (Next.value (if ← asBool (ρ c0) then ρ a0 else ρ b0))) : Sem Next) = pure (.value (if b then ρ a0 else ρ b0)) := by
          rw [hbv]; cases b <;> rfl
        show Snd P X γ w st E st' ((do pure (Next.value (if ← asBool (ρ c0) then ρ a0 else ρ b0))) : Sem Next)
        rw [hm]
        exact Snd.val hst h4 h5 hnew
      · cases hE
    · cases hc
  · -- alloc
    rename_i t hop
    obtain ⟨cells, hz, rfl⟩ := of_map hc
    obtain ⟨z, hzr, hR, h1, _⟩ := zeroOf_rep (X := X) (γ := γ) (w := w) hz
    unfold execOp; rw [hop]
    simp only [eff] at hE
    split at hE
    · injection hE with hE; subst hE
      refine new_box hst hX hR h1 _ rfl hnew _ (T := t) ?_
      simp only [Instr.alloc, Sem.run_bind, hzr, Result.andThen_ok, newVar, newRow, run_newObj, Sem.run_pure, Array.toArray_toList]; rfl
    · cases hE
  · -- box
    rename_i t x hop
    split at hc
    · rename_i hpos
      obtain ⟨y, hy, rfl⟩ := of_map hc
      have hR := stripS_sound (op1 H hy hv) hsd
      generalize (stripS true vs0).2 = vs at *
      unfold execOp; rw [hop]
      simp only [eff] at hE
      unfold eBx at hE
      split at hE
      · rename_i p
        split at hE
        · rename_i hcond
          injection hE with hE; subst hE
          obtain ⟨h1, h2⟩ := (rl1 hR).cells_ hcond.2
          refine new_box hst hX h1 h2 _ rfl hnew _ (T := t) ?_
          simp only [Instr.box, newVar, newRow, Sem.run_bind, run_newObj, Result.andThen_ok, Sem.run_pure, Array.toArray_toList]; rfl
        · cases hE
      · cases hE
    · cases hc
  · -- build
    rename_i t ps hop
    have key : ∀ (places : List (Nat × Nat × TypeId)) (place : Nat → Option (Nat × Nat)) (z : List PV) (qs : List (Nat × Nat × A)), (∀ i, place i = (places[i]?).map (fun x => (x.1, x.2.1))) → zeroOf P t = some z → parts P places ps.toList = some qs → i = .bd z qs →
        (∀ zv cur, (zeroValue t).run P w = .ok zv w → Instr.fill place zv.cells (ps.toList.map fun x => (x.1, ρ x.2)) = some cur → (Instr.build t (ps.map fun (i, x) => (i, ρ x))).run P w = .ok (.agg cur) w) → Snd P X γ w st E st' (execOp ρ o) := by
      intro places place z qs hpl hz hq hi hrun
      subst hi
      have hR := stripS_sound (parts_rep H hq hv) hsd
      generalize (stripS true vs0).2 = vs at *
      obtain ⟨zv, hzr, hzR, h1, _⟩ := zeroOf_rep (X := X) (γ := γ) (w := w) hz
      unfold execOp; rw [hop]
      simp only [eff, eBd] at hE
      split at hE
      · rename_i cs' hf
        injection hE with hE; subst hE
        obtain ⟨cur, hfill, hcr, hc1⟩ := fill_sound (ρ := ρ) place places hpl ps.toList qs vs z cs' zv.cells hq hR hzR h1 hf
        refine Snd.good hst ⟨Eff.still_pure _, _, hrun zv cur hzr hfill, ?_⟩ hnew
        have := Rep.agg (X := X) (γ := γ) (w := w) cs' cur.toList hcr.1 hc1 hcr.2
        rw [Array.toArray_toList] at this; exact this
      · cases hE
    split at hc
    · rename_i fs hu
      split at hc
      · rename_i z qs hz hq
        split at hc
        · rename_i hall
          injection hc with hc
          refine key _ (fun i => ((fs.toList.map fun f => (f.offset, P.cellsOf f.type)).toArray[i]?)) z qs (fun i => ?_) hz hq hc.symm (fun zv cur hzr hfill => ?_)
          · rw [List.getElem?_toArray, List.getElem?_map, List.getElem?_map, Option.map_map]; rfl
          · unfold Instr.build
            simp only [Sem.run_bind, hzr, Result.andThen_ok, run_underlying hu, amapM_sizes fs hall]
            have hpl : (ps.map fun (i, x) => (i, ρ x)).toList = ps.toList.map fun x => (x.1, ρ x.2) := by simp
            rw [hpl, hfill]; rfl
        · cases hc
      · cases hc
    · rename_i n e hu
      split at hc
      · rename_i z qs hz hq
        split at hc
        · rename_i hinf
          injection hc with hc
          obtain ⟨inf, hi⟩ := Option.isSome_iff_exists.1 hinf
          have hparts : ∀ (l : List (Nat × Operand)) (qs : List (Nat × Nat × A)), parts P ((List.range n).map fun i => (i * P.cellsOf e, P.cellsOf e, e)) l = some qs → ∀ x ∈ l, x.1 < n := by
            intro l
            induction l with
            | nil => intro _ _ x hx; simp at hx
            | cons y l ih =>
              intro qs h x hx
              obtain ⟨yi, yx⟩ := y
              simp only [parts] at h
              split at h
              · rename_i off n' t' r' hpi hpr
                rcases List.mem_cons.1 hx with rfl | hx
                · have := (List.getElem?_eq_some_iff.1 hpi).1
                  simpa using this
                · exact ih r' hpr x hx
              · cases h
          have hlt := hparts _ _ hq
          refine key _ (fun i => if i < n then some (i * P.cellsOf e, P.cellsOf e) else none) z qs (fun i => ?_) hz hq hc.symm (fun zv cur hzr hfill => ?_)
          · by_cases hin : i < n
            · simp [hin]
            · simp [hin]
          · unfold Instr.build
            simp only [Sem.run_bind, hzr, Result.andThen_ok, run_underlying hu, run_sizeOf w hi]
            have hpl : (ps.map fun (i, x) => (i, ρ x)).toList = ps.toList.map fun x => (x.1, ρ x.2) := by simp
            have hfe : ∀ (l : List (Nat × Operand)) (c : Array Value), (∀ x ∈ l, x.1 < n) → Instr.fill (fun i => some (i * P.cellsOf e, P.cellsOf e)) c (l.map fun x => (x.1, ρ x.2)) = Instr.fill (fun i => if i < n then some (i * P.cellsOf e, P.cellsOf e) else none) c (l.map fun x => (x.1, ρ x.2)) := by
              intro l
              induction l with
              | nil => intro c _; rfl
              | cons y l ih =>
                intro c h
                simp only [List.map_cons, Instr.fill, if_pos (h y (by simp))]
                split
                · rfl
                · exact ih _ (fun x hx => h x (by simp [hx]))
            rw [hpl, hfe _ _ hlt, hfill]; rfl
        · cases hc
      · cases hc
    · cases hc
  · -- buildSlice
    rename_i t n ps hop
    split at hc
    · rename_i e hu
      split at hc
      · rename_i hcond
        simp only [Bool.and_eq_true, beq_iff_eq, decide_eq_true_eq] at hcond
        obtain ⟨⟨⟨⟨h1, h2⟩, h3⟩, h4⟩, h5⟩ := hcond
        obtain ⟨xs, hxs, rfl⟩ := of_map hc
        have hR := stripS_sound (argsT_rep H (fun _ => e) (fun (p : Nat × Operand) => p.2) hxs hv) hsd
        generalize (stripS true vs0).2 = vs at *
        unfold execOp; rw [hop]
        simp only [eff] at hE
        unfold eBs at hE
        split at hE
        · rename_i rows hrows
          injection hE with hE; subst hE
          exact bs_sound hst hX hlo hu h1 h2 h3 h4 h5 hR rfl hcs hrows _ rfl rfl rfl rfl rfl hnew
        · cases hE
      · cases hc
    · cases hc
  · -- load
    rename_i t x hop
    split at hc
    · rename_i g y hg hy
      injection hc with hc; subst hc
      have hR := stripS_sound (op1 H hy hv) hsd
      generalize (stripS true vs0).2 = vs at *
      unfold execOp; rw [hop]
      simp only [eff] at hE
      unfold eLd at hE
      split at hE
      · rename_i r i j cells
        split at hE
        · rename_i hi
          split at hE
          · rename_i p hp
            injection hE with hE; subst hE
            obtain ⟨e, he, hce⟩ := getL_one hcs
            injection hce with hce; subst hce
            obtain ⟨v, hv1, hv2⟩ := ld_box_sound hst hg (rl1 hR) he hi hp
            exact Snd.good hst ⟨Eff.still_pure _, v, hv1, hv2⟩ hnew
          · cases hE
        · cases hE
      · rename_i r i j τ e z m f
        split at hE
        · rename_i p hp
          injection hE with hE; subst hE
          obtain ⟨e', he, hce⟩ := getL_one hcs
          injection hce with hce; subst hce
          obtain ⟨v, hv1, hv2⟩ := ld_row_sound hst hg (rl1 hR) he hs.1 hp
          exact Snd.good hst ⟨Eff.still_side _ _, v, hv1, hv2⟩ hnew
        · cases hE
      · rename_i τ ps
        split at hE
        · rename_i p hp
          injection hE with hE; subst hE
          obtain ⟨v, hv1, hv2⟩ := ld_rp_sound hg (rl1 hR) hp
          exact Snd.good hst ⟨Eff.still_pure _, v, hv1, hv2⟩ hnew
        · cases hE
      · cases hE
    · cases hc
  · -- store
    rename_i t x v hop
    split at hc
    · rename_i y z hy hz
      split at hc
      · rename_i hpos
        injection hc with hc; subst hc
        have hR := stripS_sound (opX2 (P := P) H hy hz hv) hsd
        generalize (stripS true vs0).2 = vs at *
        unfold execOp; rw [hop]
        simp only [eff] at hE
        unfold eSt at hE
        split at hE
        · rename_i r i j p cells
          split at hE
          · rename_i hcond
            obtain ⟨c1, c2, c3, c4⟩ := hcond
            injection hE with hE
            obtain ⟨e, he, hce⟩ := getL_one hcs
            injection hce with hce; subst hce
            obtain ⟨hr1, hr2⟩ := rl2 hR
            exact st_box_sound hst hpos hr1 hr2 he c1 c2 c3 c4 E hE.symm (fst_zero (by rw [← hE]) hnew)
          · cases hE
        · rename_i r i j p τ e z m f
          split at hE
          · rename_i hcond
            obtain ⟨c1, c2, c3⟩ := hcond
            injection hE with hE; subst hE
            obtain ⟨e', he, hce⟩ := getL_one hcs
            injection hce with hce; subst hce
            obtain ⟨hr1, hr2⟩ := rl2 hR
            exact st_row_sound hst hpos hr1 hr2 he hs.1 c1 c2 c3 _ rfl rfl rfl rfl rfl (fst_zero rfl hnew)
          · cases hE
        · cases hE
      · cases hc
    · cases hc
  · -- nilCheck
    rename_i x hop
    obtain ⟨y, hy, rfl⟩ := of_map hc
    have hR := stripS_sound (op1 H hy hv) hsd
    generalize (stripS true vs0).2 = vs at *
    unfold execOp; rw [hop]
    simp only [eff] at hE
    unfold eNc at hE
    split at hE
    · injection hE with hE; subst hE
      have h1 := rl1 hR
      obtain ⟨ge, b, _, _, hb⟩ := pt_inv h1
      simp only [hb] at h1 ⊢
      exact Snd.val hst (Eff.still_pure _) h1 hnew
    · injection hE with hE; subst hE
      have h1 := rl1 hR
      obtain ⟨a, hb⟩ := rp_inv h1
      simp only [hb] at h1 ⊢
      exact Snd.val hst (Eff.still_pure _) h1 hnew
    · injection hE with hE; subst hE
      have h1 := rl1 hR
      have : ∃ a b, ρ x = .func (.func ‹_›) a b := by
        generalize ρ x = u at h1
        cases h1; exact ⟨_, _, rfl⟩
      obtain ⟨a, b, hb⟩ := this
      simp only [hb] at h1 ⊢
      exact Snd.val hst (Eff.still_pure _) h1 hnew
    · cases hE
  · -- binOp
    rename_i op t x y yt hop
    split at hc
    · rename_i a b ha hb
      unfold execOp; rw [hop]
      split at hc
      · split at hc
        · rename_i fs hu
          split at hc
          · rename_i ks hks
            split at hc
            · rename_i hgu
              simp only [Bool.and_eq_true, Bool.not_eq_true'] at hgu
              have key : ∀ neg, op = (if neg then .neq else .eql) → i = .eqa neg ks a b → Snd P X γ w st E st' (do pure (.value (← (do eqGuard op t x y (ρ x) (ρ y); binOp op t (ρ x) (ρ y))))) := by
                intro neg hopn hi
                subst hi; subst hopn
                have hR := stripS_sound (op2 H ha hb hv) hsd
                generalize (stripS true vs0).2 = vs at *
                simp only [eff] at hE
                unfold eEqa at hE
                split at hE
                · rename_i as bs
                  split at hE
                  · rename_i e he
                    injection hE with hE; subst hE
                    obtain ⟨hr1, hr2⟩ := rl2 hR
                    exact Snd.good hst ⟨Eff.still_pure _, _, eqa_sound x y hu hks hgu.1 hgu.2 hr1 hr2 he, .bool _⟩ hnew
                  · cases hE
                · cases hE
              split at hc
              · injection hc with hc; exact key false rfl hc.symm
              · injection hc with hc; exact key true rfl hc.symm
              · cases hc
            · cases hc
          · cases hc
        · rename_i n e hu
          split at hc
          · rename_i k hks
            split at hc
            · rename_i hgu
              simp only [Bool.and_eq_true, Bool.not_eq_true', beq_iff_eq] at hgu
              have key : ∀ neg, op = (if neg then .neq else .eql) → i = .eqa neg (List.replicate n k) a b → Snd P X γ w st E st' (do pure (.value (← (do eqGuard op t x y (ρ x) (ρ y); binOp op t (ρ x) (ρ y))))) := by
                intro neg hopn hi
                subst hi; subst hopn
                have hR := stripS_sound (op2 H ha hb hv) hsd
                generalize (stripS true vs0).2 = vs at *
                simp only [eff] at hE
                unfold eEqa at hE
                split at hE
                · rename_i as bs
                  split at hE
                  · rename_i e he
                    injection hE with hE; subst hE
                    obtain ⟨hr1, hr2⟩ := rl2 hR
                    exact Snd.good hst ⟨Eff.still_pure _, _, eqar_sound x y hu hks hgu.1.2 hgu.2 hgu.1.1 hr1 hr2 he, .bool _⟩ hnew
                  · cases hE
                · cases hE
              split at hc
              · injection hc with hc; exact key false rfl hc.symm
              · injection hc with hc; exact key true rfl hc.symm
              · cases hc
            · cases hc
          · cases hc
        · cases hc
      · split at hc
        · -- bool
          rename_i hu
          have key : ∀ neg, op = (if neg then .neq else .eql) → i = .bib neg a b → Snd P X γ w st E st' (do pure (.value (← (do eqGuard op t x y (ρ x) (ρ y); binOp op t (ρ x) (ρ y))))) := by
            intro neg hopn hi
            subst hi; subst hopn
            have hR := stripS_sound (op2 H ha hb hv) hsd
            generalize (stripS true vs0).2 = vs at *
            simp only [eff] at hE
            unfold eBib at hE
            split at hE
            · rename_i p q
              injection hE with hE; subst hE
              obtain ⟨hr1, hr2⟩ := rl2 hR
              refine Snd.good hst ⟨Eff.still_pure _, _, ?_, .bool _⟩ hnew
              rw [hr1.bool_inv, hr2.bool_inv, Sem.run_bind, guard_bool, Result.andThen_ok, bib_sound neg hu]
            · cases hE
          split at hc
          · injection hc with hc; exact key false rfl hc.symm
          · injection hc with hc; exact key true rfl hc.symm
          · cases hc
        all_goals first
          | (cases hc; done)
          | (injection hc with hc; subst hc
             have hR := stripS_sound (op2 H ha hb hv) hsd
             generalize (stripS true vs0).2 = vs at *
             simp only [eff] at hE
             unfold eBi at hE
             split at hE
             · rename_i p q
               obtain ⟨hr1, hr2⟩ := rl2 hR
               obtain ⟨h1, v, h2, h3⟩ := biV_sound (P := P) (t := t) hr1 hr2 hE hs
               refine Snd.good hst ⟨h1, v, ?_, h3⟩ hnew
               have hgd : (eqGuard op t x y (ρ x) (ρ y)).run P w = .ok () w := by
                 cases p <;> simp only [biV] at hE <;> first | (cases hE; done) | (rw [hr1.int_inv]; exact guard_int _ _ _ _ _ _ _) | (rw [hr1.str_inv]; exact guard_str _ _ _ _ _ _)
               rw [Sem.run_bind, hgd, Result.andThen_ok, h2]
             · cases hE)
    · cases hc
  · -- unOp
    rename_i op t x hop
    obtain ⟨y, hy, rfl⟩ := of_map hc
    have hR := stripS_sound (op1 H hy hv) hsd
    generalize (stripS true vs0).2 = vs at *
    unfold execOp; rw [hop]
    simp only [eff] at hE
    unfold eUn at hE
    split at hE
    · have h1 := (rl1 hR).int_inv
      have h2 := neg_sound (P := P) (X := X) (γ := γ) (w := w) hE hs
      rw [← h1] at h2
      exact Snd.good hst h2 hnew
    · injection hE with hE; subst hE
      have h1 := (rl1 hR).bool_inv
      exact Snd.good hst ⟨Eff.still_pure _, _, by rw [h1]; rfl, .bool _⟩ hnew
    · cases hE
  · -- convert
    rename_i s d' x hop
    split at hc
    · rename_i k1 k hs1 hd1
      obtain ⟨y, hy, rfl⟩ := of_map hc
      have hR := stripS_sound (op1 H hy hv) hsd
      generalize (stripS true vs0).2 = vs at *
      unfold execOp; rw [hop]
      simp only [eff] at hE
      unfold eCv at hE
      split at hE
      · rename_i k2 n
        have h1 := (rl1 hR).int_inv
        have hrun : (convert s d' (ρ x)).run P w = .ok (.int k (k.wrap n)) w := by
          rw [h1]; simp [convert, run_underlying hs1, run_underlying hd1, Conv.intToInt]
        split at hE
        · injection hE with hE; subst hE
          exact Snd.good hst ⟨Eff.still_pure _, _, hrun, .int _ _⟩ hnew
        · injection hE with hE; subst hE
          refine Snd.good hst ⟨Eff.still_side _ _, _, hrun, ?_⟩ hnew
          rw [wrap_in _ _ hs.1]; exact .int _ _
      · cases hE
    · cases hc
  · -- fieldAddr
    rename_i s x f hop
    split at hc
    · rename_i fs hu
      split at hc
      · rename_i f' hf
        split at hc
        · rename_i hpos
          obtain ⟨y, hy, rfl⟩ := of_map hc
          have hR := stripS_sound (op1 H hy hv) hsd
          generalize (stripS true vs0).2 = vs at *
          unfold execOp; rw [hop]
          simp only [eff] at hE
          unfold eFa at hE
          split at hE
          · injection hE with hE; subst hE
            obtain ⟨v, h1, h2⟩ := fa_sound (P := P) hu hf hpos (rl1 hR) rfl
            exact Snd.good hst ⟨Eff.still_pure _, v, h1, h2⟩ hnew
          · injection hE with hE; subst hE
            obtain ⟨v, h1, h2⟩ := fa_sound (P := P) hu hf hpos (rl1 hR) rfl
            exact Snd.good hst ⟨Eff.still_pure _, v, h1, h2⟩ hnew
          · cases hE
        · cases hc
      · cases hc
    · cases hc
  · -- field
    rename_i s x f hop
    split at hc
    · rename_i fs hu
      split at hc
      · rename_i f' hf
        split at hc
        · rename_i g y hg hy
          injection hc with hc; subst hc
          have hR := stripS_sound (op1 H hy hv) hsd
          generalize (stripS true vs0).2 = vs at *
          unfold execOp; rw [hop]
          simp only [eff] at hE
          unfold eFd at hE
          split at hE
          · rename_i ps
            split at hE
            · rename_i p hp
              injection hE with hE; subst hE
              obtain ⟨us, hus, hur, hu1⟩ := (rl1 hR).agg_inv
              obtain ⟨v, h1, h2⟩ := part_sound (P := P) hg hur hu1 hp
              refine Snd.good hst ⟨Eff.still_pure _, v, ?_, h2⟩ hnew
              rw [hus]; simp [Instr.field, run_underlying hu, hf, asAgg, h1]
            · cases hE
          · cases hE
        · cases hc
      · cases hc
    · cases hc
  · -- indexAddr
    rename_i t x ix hop
    split at hc
    · rename_i e y z hu hy hz
      split at hc
      · rename_i hpos
        injection hc with hc; subst hc
        have hR := stripS_sound (op2 H hy hz hv) hsd
        generalize (stripS true vs0).2 = vs at *
        unfold execOp; rw [hop]
        simp only [eff] at hE
        unfold eIa at hE
        split at hE
        · rename_i τ z' m f k n
          split at hE
          · rename_i hzz; subst hzz
            injection hE with hE; subst hE
            obtain ⟨hr1, hr2⟩ := rl2 hR
            have hri := hr2.int_inv
            obtain ⟨v, h1, h2⟩ := ia_sl_sound (P := P) (k := k) hu hpos hr1 hs.1.1 hs.1.2
            exact Snd.good hst ⟨Eff.still_side _ _, v, by rw [hri]; exact h1, h2⟩ hnew
          · cases hE
        · rename_i r k n τ e' z' m f
          split at hE
          · rename_i hzz; subst hzz
            injection hE with hE; subst hE
            obtain ⟨hr1, hr2⟩ := rl2 hR
            have hri := hr2.int_inv
            obtain ⟨e0, he, hce⟩ := getL_one hcs
            injection hce with hce; subst hce
            obtain ⟨ge, hg, hge⟩ := os_inv hr1
            obtain ⟨ws, hzz, hb, _, ho, _⟩ := (hst.at_ _ _ _ hg he).rows
            obtain ⟨ad, cap, hh, _, _, hor⟩ := own_slice ho
            have hm : n.toNat < m := hs.1.2
            rcases hor with h0 | ⟨g, rfl, hlt, hbl⟩
            · omega
            · have hrun := indexAt_slice (P := P) (w := w) (a := ⟨g, 0, none⟩) (n := m) (cap := cap) (k := k) (i := n) hu hpos hs.1.1 hm
              rw [← hh, ← hge, ← hri, add_plain] at hrun
              refine Snd.good hst ⟨Eff.still_side _ _, _, hrun, ?_⟩ hnew
              have := Rep.pt (X := X) (w := w) r n.toNat 0 ge g hg (by rw [hb, hbl])
              rw [hzz] at this
              simpa [Eff.side'] using this
          · cases hE
        · cases hE
      · cases hc
    · rename_i n e y z hu hy hz
      split at hc
      · rename_i hcond
        simp only [Bool.and_eq_true, decide_eq_true_eq] at hcond
        injection hc with hc; subst hc
        have hR := stripS_sound (op2 H hy hz hv) hsd
        generalize (stripS true vs0).2 = vs at *
        unfold execOp; rw [hop]
        simp only [eff] at hE
        unfold eIaa at hE
        split at hE
        · injection hE with hE; subst hE
          obtain ⟨hr1, hr2⟩ := rl2 hR
          have hri := hr2.int_inv
          obtain ⟨v, h1, h2⟩ := iaa_sound (P := P) hu hcond.2 hr1 hs.1.1 hs.1.2 rfl
          exact Snd.good hst ⟨Eff.still_side _ _, v, by rw [hri]; exact h1, h2⟩ hnew
        · injection hE with hE; subst hE
          obtain ⟨hr1, hr2⟩ := rl2 hR
          have hri := hr2.int_inv
          obtain ⟨v, h1, h2⟩ := iaa_sound (P := P) hu hcond.2 hr1 hs.1.1 hs.1.2 rfl
          exact Snd.good hst ⟨Eff.still_side _ _, v, by rw [hri]; exact h1, h2⟩ hnew
        · cases hE
      · cases hc
    · cases hc
  · -- index
    rename_i t x ix hop
    split at hc
    · rename_i n e y z hu hy hz
      split at hc
      · rename_i g hg
        injection hc with hc; subst hc
        have hR := stripS_sound (op2 H hy hz hv) hsd
        generalize (stripS true vs0).2 = vs at *
        unfold execOp; rw [hop]
        simp only [eff] at hE
        unfold eIxa at hE
        split at hE
        · rename_i ps k j
          split at hE
          · rename_i p hp
            injection hE with hE; subst hE
            obtain ⟨hr1, hr2⟩ := rl2 hR
            obtain ⟨us, hus, hur, hu1⟩ := hr1.agg_inv
            obtain ⟨v, h1, h2⟩ := part_sound (P := P) hg hur hu1 hp
            obtain ⟨inf, hi, _⟩ := info_of_agg hg
            have h0 : 0 ≤ j := hs.1.1
            have h3 : j < (n : Int) := by have := hs.1.2; omega
            refine Snd.good hst ⟨Eff.still_side _ _, v, ?_, h2⟩ hnew
            rw [hus, hr2.int_inv]
            simp [Instr.index, asIntOf, run_underlying hu, h0, h3, run_sizeOf w hi, h1]
          · cases hE
        · cases hE
      · cases hc
    · rename_i y z hu hy hz
      injection hc with hc; subst hc
      have hR := stripS_sound (op2 H hy hz hv) hsd
      generalize (stripS true vs0).2 = vs at *
      unfold execOp; rw [hop]
      simp only [eff] at hE
      unfold eIxs at hE
      split at hE
      · rename_i s k j
        injection hE with hE; subst hE
        obtain ⟨hr1, hr2⟩ := rl2 hR
        have h0 : 0 ≤ j := hs.1.1
        have h3 : j.toNat < s.length := hs.1.2
        refine Snd.good hst ⟨Eff.still_side _ _, _, ?_, .int _ _⟩ hnew
        rw [hr1.str_inv, hr2.int_inv]
        have hg : (⟨s.toArray⟩ : ByteArray)[j.toNat]? = some (s.getD j.toNat 0) := by
          have hsz : j.toNat < (⟨s.toArray⟩ : ByteArray).size := h3
          rw [getElem?_pos (⟨s.toArray⟩ : ByteArray) j.toNat hsz]
          simp [List.getD, List.getElem?_eq_getElem h3]; rfl
        simp only [Instr.index, asIntOf, Sem.run_bind, Sem.run_pure, Result.andThen_ok, run_underlying hu, if_pos h0, hg]
      · cases hE
    · cases hc
  · -- slice
    rename_i t x lo hi hop
    have mapnone : ∀ (a : Option Operand), a.map ρ = match a with | none => none | some v => some (ρ v) := fun a => by cases a <;> rfl
    split at hc
    · rename_i e y hu hy
      split at hc
      · rename_i hpos
        unfold execOp; rw [hop]
        split at hc
        · injection hc with hc; subst hc
          have hR := stripS_sound (op1 H hy hv) hsd
          generalize (stripS true vs0).2 = vs at *
          simp only [eff, Option.isSome_none, eSlc] at hE
          unfold eSlc00 at hE
          split at hE <;> try cases hE
          rename_i τ z' m f
          split at hE
          · rename_i hzz; subst hzz
            injection hE with hE; subst hE
            obtain ⟨v, h1, h2⟩ := slc_sound (P := P) (lo := none) (hi := none) (l := 0) (h := m) hu hpos (rl1 hR) (.inl ⟨rfl, rfl⟩) (.inl ⟨rfl, rfl⟩) (Nat.zero_le _) (Nat.le_refl _)
            refine Snd.good hst ⟨Eff.still_pure _, v, h1, ?_⟩ hnew
            simpa [Eff.pure] using h2
          · cases hE
        · rename_i l
          obtain ⟨b, hb, rfl⟩ := of_map hc
          have hR := stripS_sound (op2 H hy hb hv) hsd
          generalize (stripS true vs0).2 = vs at *
          simp only [eff, Option.isSome_none, Option.isSome_some, eSlc] at hE
          unfold eSlc10 at hE
          split at hE
          · rename_i τ z' m f k n
            split at hE
            · rename_i hzz; subst hzz
              injection hE with hE; subst hE
              obtain ⟨hr1, hr2⟩ := rl2 hR
              obtain ⟨h0, h1⟩ := hs.1
              obtain ⟨v, h2, h3⟩ := slc_sound (P := P) (lo := some (ρ l)) (hi := none) (l := n.toNat) (h := m) hu hpos hr1 (.inr ⟨k, n, by rw [hr2.int_inv], h0, rfl⟩) (.inl ⟨rfl, rfl⟩) h1 (Nat.le_refl _)
              exact Snd.good hst ⟨Eff.still_side _ _, v, h2, h3⟩ hnew
            · cases hE
          · rename_i r k n τ e' z' m f
            split at hE
            · rename_i hzz; subst hzz
              injection hE with hE; subst hE
              obtain ⟨hr1, hr2⟩ := rl2 hR
              obtain ⟨h0, h1⟩ := hs.1
              have hcs' : getL st [r] = some [.row τ e' (P.cellsOf e) m f] := by simpa [I.acc, PV.top] using hcs
              obtain ⟨e0, he0, he1⟩ := getL_one hcs'
              injection he1 with he1 _
              subst he1
              obtain ⟨v, h2, h3⟩ := slc_vw_sound (P := P) (lo := some (ρ l)) (hi := none) (l := n.toNat) (h := m) (b := false) hst hu hpos hr1 he0 (.inr ⟨k, n, by rw [hr2.int_inv], h0, rfl⟩) (.inl ⟨rfl, rfl⟩) h1 (Nat.le_refl _) (fun h => by cases h)
              exact Snd.good hst ⟨Eff.still_side _ _, v, h2, h3⟩ hnew
            · cases hE
          · cases hE
        · rename_i h'
          obtain ⟨b, hb, rfl⟩ := of_map hc
          have hR := stripS_sound (op2 H hy hb hv) hsd
          generalize (stripS true vs0).2 = vs at *
          simp only [eff, Option.isSome_none, Option.isSome_some, eSlc] at hE
          unfold eSlc01 at hE
          split at hE
          · rename_i τ z' m f k n
            split at hE
            · rename_i hzz; subst hzz
              injection hE with hE; subst hE
              obtain ⟨hr1, hr2⟩ := rl2 hR
              obtain ⟨h0, h1⟩ := hs.1
              obtain ⟨v, h2, h3⟩ := slc_sound (P := P) (lo := none) (hi := some (ρ h')) (l := 0) (h := n.toNat) hu hpos hr1 (.inl ⟨rfl, rfl⟩) (.inr ⟨k, n, by rw [hr2.int_inv], h0, rfl⟩) (Nat.zero_le _) h1
              refine Snd.good hst ⟨Eff.still_side _ _, v, h2, ?_⟩ hnew
              simpa [Eff.side'] using h3
            · cases hE
          · rename_i r k n τ e' z' m f
            split at hE
            · rename_i hzz; subst hzz
              injection hE with hE; subst hE
              obtain ⟨hr1, hr2⟩ := rl2 hR
              obtain ⟨h0, h1⟩ := hs.1
              have hcs' : getL st [r] = some [.row τ e' (P.cellsOf e) m f] := by simpa [I.acc, PV.top] using hcs
              obtain ⟨e0, he0, he1⟩ := getL_one hcs'
              injection he1 with he1 _
              subst he1
              obtain ⟨v, h2, h3⟩ := slc_vw_sound (P := P) (lo := none) (hi := some (ρ h')) (l := 0) (h := n.toNat) (b := true) hst hu hpos hr1 he0 (.inl ⟨rfl, rfl⟩) (.inr ⟨k, n, by rw [hr2.int_inv], h0, rfl⟩) (Nat.zero_le _) h1 (fun _ => rfl)
              exact Snd.good hst ⟨Eff.still_side _ _, v, h2, h3⟩ hnew
            · cases hE
          · cases hE
        · rename_i l h'
          split at hc
          · rename_i b b' hb hb'
            injection hc with hc; subst hc
            have hR := stripS_sound (op3 H hy hb hb' hv) hsd
            generalize (stripS true vs0).2 = vs at *
            simp only [eff, Option.isSome_some, eSlc] at hE
            unfold eSlc11 at hE
            split at hE <;> try cases hE
            rename_i τ z' m f k n k' n'
            split at hE
            · rename_i hzz; subst hzz
              injection hE with hE; subst hE
              have hr1 := hR.2 0 _ _ rfl rfl
              have hr2 := hR.2 1 _ _ rfl rfl
              have hr3 := hR.2 2 _ _ rfl rfl
              obtain ⟨h0, h1, h2, h3⟩ := hs.1
              obtain ⟨v, h4, h5⟩ := slc_sound (P := P) (lo := some (ρ l)) (hi := some (ρ h')) (l := n.toNat) (h := n'.toNat) hu hpos hr1 (.inr ⟨k, n, by rw [hr2.int_inv], h0, rfl⟩) (.inr ⟨k', n', by rw [hr3.int_inv], h2, rfl⟩) h1 h3
              exact Snd.good hst ⟨Eff.still_side _ _, v, h4, h5⟩ hnew
            · cases hE
          · cases hc
      · cases hc
    · rename_i y hu hy
      unfold execOp; rw [hop]
      split at hc
      · injection hc with hc; subst hc
        have hR := stripS_sound (op1 H hy hv) hsd
        generalize (stripS true vs0).2 = vs at *
        simp only [eff, Option.isSome_none, eSlcs] at hE
        unfold eSlcs00 at hE
        split at hE <;> try cases hE
        rename_i s
        obtain ⟨v, h1, h2⟩ := slcs_sound (P := P) (lo := none) (hi := none) (l := 0) (h := s.length) hu (rl1 hR) (.inl ⟨rfl, rfl⟩) (.inl ⟨rfl, rfl⟩) (Nat.zero_le _) (Nat.le_refl _)
        refine Snd.good hst ⟨Eff.still_pure _, v, h1, ?_⟩ hnew
        simpa [Eff.pure] using h2
      · rename_i l
        obtain ⟨b, hb, rfl⟩ := of_map hc
        have hR := stripS_sound (op2 H hy hb hv) hsd
        generalize (stripS true vs0).2 = vs at *
        simp only [eff, Option.isSome_none, Option.isSome_some, eSlcs] at hE
        unfold eSlcs10 at hE
        split at hE <;> try cases hE
        rename_i s k n
        obtain ⟨hr1, hr2⟩ := rl2 hR
        obtain ⟨h0, h1⟩ := hs.1
        obtain ⟨v, h2, h3⟩ := slcs_sound (P := P) (lo := some (ρ l)) (hi := none) (l := n.toNat) (h := s.length) hu hr1 (.inr ⟨k, n, by rw [hr2.int_inv], h0, rfl⟩) (.inl ⟨rfl, rfl⟩) h1 (Nat.le_refl _)
        refine Snd.good hst ⟨Eff.still_side _ _, v, h2, ?_⟩ hnew
        simpa [Eff.side'] using h3
      · rename_i h'
        obtain ⟨b, hb, rfl⟩ := of_map hc
        have hR := stripS_sound (op2 H hy hb hv) hsd
        generalize (stripS true vs0).2 = vs at *
        simp only [eff, Option.isSome_none, Option.isSome_some, eSlcs] at hE
        unfold eSlcs01 at hE
        split at hE <;> try cases hE
        rename_i s k n
        obtain ⟨hr1, hr2⟩ := rl2 hR
        obtain ⟨h0, h1⟩ := hs.1
        obtain ⟨v, h2, h3⟩ := slcs_sound (P := P) (lo := none) (hi := some (ρ h')) (l := 0) (h := n.toNat) hu hr1 (.inl ⟨rfl, rfl⟩) (.inr ⟨k, n, by rw [hr2.int_inv], h0, rfl⟩) (Nat.zero_le _) h1
        refine Snd.good hst ⟨Eff.still_side _ _, v, h2, ?_⟩ hnew
        simpa [Eff.side'] using h3
      · rename_i l h'
        split at hc
        · rename_i b b' hb hb'
          injection hc with hc; subst hc
          have hR := stripS_sound (op3 H hy hb hb' hv) hsd
          generalize (stripS true vs0).2 = vs at *
          simp only [eff, Option.isSome_some, eSlcs] at hE
          unfold eSlcs11 at hE
          split at hE <;> try cases hE
          rename_i s k n k' n'
          have hr1 := hR.2 0 _ _ rfl rfl
          have hr2 := hR.2 1 _ _ rfl rfl
          have hr3 := hR.2 2 _ _ rfl rfl
          obtain ⟨h0, h1, h2, h3⟩ := hs.1
          obtain ⟨v, h4, h5⟩ := slcs_sound (P := P) (lo := some (ρ l)) (hi := some (ρ h')) (l := n.toNat) (h := n'.toNat) hu hr1 (.inr ⟨k, n, by rw [hr2.int_inv], h0, rfl⟩) (.inr ⟨k', n', by rw [hr3.int_inv], h2, rfl⟩) h1 h3
          exact Snd.good hst ⟨Eff.still_side _ _, v, h4, h5⟩ hnew
        · cases hc
    · cases hc
  · -- makeSlice
    rename_i t n c' hop
    split at hc
    · rename_i e y z hu hy hz
      split at hc
      · rename_i zero hzero
        split at hc
        · rename_i hpos
          injection hc with hc; subst hc
          have hR := stripS_sound (op2 H hy hz hv) hsd
          generalize (stripS true vs0).2 = vs at *
          unfold execOp; rw [hop]
          simp only [eff] at hE
          unfold eMks at hE
          split at hE
          · rename_i k a k' b
            split at hE
            · rename_i hcond
              injection hE with hE; subst hE
              obtain ⟨hr1, hr2⟩ := rl2 hR
              obtain ⟨g0, g1, g2, g3, _⟩ := hs
              have hm := mks_sound (P := P) (k := k) (k' := k') (n := a) (c := b) hst hX hu hpos hzero hcond.2.1 hcond.1 hcond.2.2 g0 g1 g2 g3 _ rfl rfl rfl rfl rfl hnew
              rw [← hr1.int_inv, ← hr2.int_inv] at hm
              exact hm
            · cases hE
          · cases hE
        · cases hc
      · cases hc
    · cases hc
  · -- extract
    rename_i x k hop
    obtain ⟨y, hy, rfl⟩ := of_map hc
    have hR := stripS_sound (op1 H hy hv) hsd
    generalize (stripS true vs0).2 = vs at *
    unfold execOp; rw [hop]
    simp only [eff] at hE
    unfold eEx at hE
    split at hE
    · rename_i ps
      split at hE
      · rename_i p hp
        injection hE with hE; subst hE
        obtain ⟨us, hus, hur⟩ := (rl1 hR).tup_inv
        obtain ⟨u, hu, hpu⟩ := hur.at hp
        refine Snd.good hst ⟨Eff.still_pure _, u, ?_, hpu⟩ hnew
        rw [hus]; simp [Instr.extract, hu]
      · cases hE
    · cases hE
  · -- makeFunc
    rename_i f first caps hop
    split at hc
    · rename_i a b ha hb
      injection hc with hc; subst hc
      have hv' : ∃ va vb, vs0 = va ++ vb ∧ valL fr a = some va ∧ valL fr b = some vb := by
        have : ∀ (l l' : List A) (r : List PV), valL fr (l ++ l') = some r → ∃ va vb, r = va ++ vb ∧ valL fr l = some va ∧ valL fr l' = some vb := by
          intro l
          induction l with
          | nil => intro l' r h; exact ⟨[], r, rfl, rfl, h⟩
          | cons x l ih =>
            intro l' r h
            simp only [List.cons_append, valL] at h
            split at h
            · rename_i p ps hp hps
              injection h with h; subst h
              obtain ⟨va, vb, rfl, h1, h2⟩ := ih l' ps hps
              exact ⟨p :: va, vb, rfl, by simp [valL, hp, h1], h2⟩
            · cases h
        exact this a b vs0 hv
      obtain ⟨va, vb, rfl, h1, h2⟩ := hv'
      have hRa := args_rep H ha h1
      have hRb := args_rep H hb h2
      have hR := stripS_sound (hRa.append hRb) hsd
      have hlen : ∀ l, (stripS true l).2.length = l.length := by
        intro l
        have : ∀ l, (stripL true l).2.length = l.length := by
          intro l
          induction l with
          | nil => rfl
          | cons p l ih => cases p <;> simp [stripL, ih]
        unfold stripS
        cases l.any PV.isCnd with
        | false => rfl
        | true => exact this l
      have hl := hlen (va ++ vb)
      generalize (stripS true (va ++ vb)).2 = vs at *
      unfold execOp; rw [hop]
      simp only [eff, Option.some.injEq] at hE
      subst hE
      have hval : va.length = a.length := valL_length h1
      have hra : RepL X γ w (vs.take a.length) (first.toList.map ρ) := by
        have := hR.take a.length
        rw [List.take_left' (by rw [List.length_map, ← mapO_length ha])] at this
        exact this
      have hrb : RepL X γ w (vs.drop a.length) (caps.toList.map ρ) := by
        have := hR.drop a.length
        rw [List.drop_left' (by rw [List.length_map, ← mapO_length ha])] at this
        exact this
      refine Snd.good hst ⟨Eff.still_pure _, _, rfl, ?_⟩ hnew
      have := Rep.fn (X := X) (γ := γ) (w := w) f _ _ _ _ hra.1 hrb.1 hra.2 hrb.2
      have e1 : (first.toList.map ρ).toArray = first.map ρ := by rw [← Array.toList_map, Array.toArray_toList]
      have e2 : (caps.toList.map ρ).toArray = caps.map ρ := by rw [← Array.toList_map, Array.toArray_toList]
      rw [e1, e2] at this
      exact this
    · cases hc
  · -- calls
    rename_i cl hop
    unfold execOp; rw [hop]
    split at hc
    · -- len
      rename_i hcal
      split at hc
      · rename_i x t hxs hts
        have hargs : cl.args = #[x] := by apply Array.ext'; simpa using hxs
        have htys : cl.argTypes = #[t] := by apply Array.ext'; simpa using hts
        have hm : ∀ v, (Builtin.len_ #[t] o.type #[ρ x]).run P w = .ok v w → ((do let d ← resolve ρ cl o.type; invoke d.target d.args) : Sem Next).run P w = .ok (.value v) w := fun v h => by
          simp [resolve, hcal, hargs, htys, invoke, builtin, h]
        split at hc
        · rename_i e hu
          obtain ⟨y, hy, rfl⟩ := of_map hc
          have hR := stripS_sound (op1 H hy hv) hsd
          generalize (stripS true vs0).2 = vs at *
          simp only [eff] at hE
          have key : ∀ p (m : Nat), vs = [p] → E = .pure (.int .i64 (m : Int)) → (match (generalizing := false) p, cs with | .sl _ _ m' _, _ => m = m' | .nil _, _ => m = 0 | .os _, [.row _ _ _ m' _] => m = m' | _, _ => False) → getL st p.top = some cs → Snd P X γ w st E st' (do let d ← resolve ρ cl o.type; invoke d.target d.args) := by
            intro p m hp hEE hmm hcs'
            subst hp; subst hEE
            have hl := len_sound o.type hst hu (rl1 hR) hcs' hmm
            cases still_st (Eff.still_pure _) hnew
            exact ⟨_, _, w, γ, hm _ hl, .inl rfl, EffOK.still (Eff.still_pure _) hst (.int _ _)⟩
          unfold eLen at hE
          split at hE
          · injection hE with hE; exact key _ _ rfl hE.symm rfl (by simpa [I.acc, PV.top] using hcs)
          · injection hE with hE; exact key _ 0 rfl hE.symm rfl (by simpa [I.acc, PV.top] using hcs)
          · injection hE with hE; exact key _ _ rfl hE.symm rfl (by simpa [I.acc, PV.top] using hcs)
          · cases hE
        · rename_i hu
          obtain ⟨y, hy, rfl⟩ := of_map hc
          have hR := stripS_sound (op1 H hy hv) hsd
          generalize (stripS true vs0).2 = vs at *
          simp only [eff] at hE
          unfold eLens at hE
          split at hE
          · injection hE with hE; subst hE
            have hl := lens_sound (P := P) o.type hu (rl1 hR)
            cases still_st (Eff.still_pure _) hnew
            exact ⟨_, _, w, γ, hm _ hl, .inl rfl, EffOK.still (Eff.still_pure _) hst (.int _ _)⟩
          · cases hE
        · cases hc
      · cases hc
    · -- max
      rename_i hcal
      split at hc
      · rename_i y ys hys
        injection hc with hc; subst hc
        have hR := stripS_sound (args_rep H hys hv) hsd
        generalize (stripS true vs0).2 = vs at *
        simp only [eff] at hE
        unfold eMx at hE
        split at hE
        · rename_i k n r
          split at hE
          · rename_i p hp
            injection hE with hE; subst hE
            obtain ⟨u, us, hu, hu1, hus⟩ := hR.cons_inv
            obtain ⟨v, h1, h2⟩ := max_run (P := P) k n r us p hus hp
            cases still_st (Eff.still_pure _) hnew
            refine ⟨_, v, w, γ, ?_, .inl rfl, EffOK.still (Eff.still_pure _) hst h2⟩
            have hl : (cl.args.map ρ).toList = u :: us := by simpa using hu
            have : (Builtin.max_ cl.argTypes o.type (cl.args.map ρ)).run P w = .ok v w := by
              unfold Builtin.max_; rw [hl, hu1.int_inv]; exact h1
            simp [resolve, hcal, invoke, builtin, this]
          · cases hE
        · cases hE
      · cases hc
    · -- min
      rename_i hcal
      split at hc
      · rename_i y ys hys
        injection hc with hc; subst hc
        have hR := stripS_sound (args_rep H hys hv) hsd
        generalize (stripS true vs0).2 = vs at *
        simp only [eff] at hE
        unfold eMn at hE
        split at hE
        · rename_i k n r
          split at hE
          · rename_i p hp
            injection hE with hE; subst hE
            obtain ⟨u, us, hu, hu1, hus⟩ := hR.cons_inv
            obtain ⟨v, h1, h2⟩ := min_run (P := P) k n r us p hus hp
            cases still_st (Eff.still_pure _) hnew
            refine ⟨_, v, w, γ, ?_, .inl rfl, EffOK.still (Eff.still_pure _) hst h2⟩
            have hl : (cl.args.map ρ).toList = u :: us := by simpa using hu
            have : (Builtin.min_ cl.argTypes o.type (cl.args.map ρ)).run P w = .ok v w := by
              unfold Builtin.min_; rw [hl, hu1.int_inv]; exact h1
            simp [resolve, hcal, invoke, builtin, this]
          · cases hE
        · cases hE
      · cases hc
    · -- append
      rename_i hcal
      split at hc
      · rename_i x y t u hxs hts
        split at hc
        · rename_i htu
          have htu : t = u := by simpa using htu
          subst htu
          have hargs : cl.args = #[x, y] := by apply Array.ext'; simpa using hxs
          have htys : cl.argTypes = #[t, t] := by apply Array.ext'; simpa using hts
          split at hc
          · rename_i e a b hu ha hb
            split at hc
            · rename_i hcond
              simp only [Bool.and_eq_true, decide_eq_true_eq] at hcond
              injection hc with hc; subst hc
              have hR := stripS_sound (opT2 H ha hb hv) hsd
              generalize (stripS true vs0).2 = vs at *
              have hmain : Snd P X γ w st E st' (do pure (.value (← Builtin.append_ #[t, t] o.type #[ρ x, ρ y]))) := by
                simp only [eff] at hE
                unfold eApp at hE
                split at hE
                · rename_i r lo h q τ e' z' m f cs'
                  split at hE
                  · rename_i τ' z'' m' f' hsrc
                    split at hE
                    · rename_i heq
                      obtain ⟨he1, he2, he3⟩ := heq
                      injection hE with hE; subst hE
                      subst he1; subst he2; subst he3
                      obtain ⟨hr1, hr2⟩ := rl2 hR
                      have hcs' : getL st ([r] ++ q.top) = some (.row τ e (P.cellsOf e) m f :: cs') := by
                        simpa [I.acc, PV.top] using hcs
                      obtain ⟨c1, c2, hcc, hc1, hc2⟩ := getL_append _ _ _ hcs'
                      obtain ⟨e0, he0, rfl⟩ := getL_one hc1
                      simp only [List.cons_append, List.nil_append, List.cons.injEq] at hcc
                      obtain ⟨hcc1, rfl⟩ := hcc
                      subst hcc1
                      exact app_vw_sound o.type hst hX hu hcond.2 hcond.1 hr1 hr2 he0 hc2 hsrc hs.1 hs.2.1 _ rfl rfl rfl rfl rfl (fst_zero rfl hnew)
                    · cases hE
                  · cases hE
                · rename_i r q τ e' z' m f cs'
                  split at hE
                  · rename_i τ' z'' m' f' hsrc
                    split at hE
                    · rename_i heq
                      obtain ⟨he1, he2, he3⟩ := heq
                      injection hE with hE; subst hE
                      subst he1; subst he2; subst he3
                      obtain ⟨hr1, hr2⟩ := rl2 hR
                      have hcs' : getL st ([r] ++ q.top) = some (.row τ e (P.cellsOf e) m f :: cs') := by
                        simpa [I.acc, PV.top] using hcs
                      obtain ⟨c1, c2, hcc, hc1, hc2⟩ := getL_append _ _ _ hcs'
                      obtain ⟨e0, he0, rfl⟩ := getL_one hc1
                      simp only [List.cons_append, List.nil_append, List.cons.injEq] at hcc
                      obtain ⟨hcc1, rfl⟩ := hcc
                      subst hcc1
                      exact app_os_sound o.type hst hX hu hcond.2 hcond.1 hr1 hr2 he0 hc2 hsrc hs.1 hs.2.1 _ rfl rfl rfl rfl rfl (fst_zero rfl hnew)
                    · cases hE
                  · cases hE
                · rename_i z0 q
                  split at hE
                  · rename_i τ' z'' m' f' hsrc
                    split at hE
                    · rename_i heq
                      subst heq
                      injection hE with hE; subst hE
                      obtain ⟨hr1, hr2⟩ := rl2 hR
                      exact app_nil_sound o.type hst hX hu hcond.2 hcond.1 hr1 hr2 (by simpa [I.acc, PV.top] using hcs) hsrc hs.1 hs.2.1 _ rfl rfl rfl rfl rfl hnew
                    · cases hE
                  · cases hE
                · cases hE
              obtain ⟨nx, v, w', γ', hrun, hnx, hok⟩ := hmain
              refine ⟨nx, v, w', γ', ?_, hnx, hok⟩
              rw [← hrun]
              simp [resolve, hcal, hargs, htys, invoke, builtin]
            · cases hc
          · cases hc
        · cases hc
      · cases hc
    · cases hc
    · -- a function value
      split at hc
      · split at hc
        · injection hc with hc; subst hc; cases hnc
        · cases hc
      · cases hc
    · cases hc
  · cases hc
end
end Pv
end Go.Proofs.Ytogoplhikmmggaa
