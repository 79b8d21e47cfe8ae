/- LITERAL SLICES; STORES AND LOADS THROUGH POINTERS INTO THEM; THE SMALL REST; AND ALL OPERATIONS BUT CALLS TOGETHER. -/
import Derived.Test.YtogoplhikmmggaaPv8
set_option linter.unusedSimpArgs false
set_option linter.unusedVariables false
namespace Go.Proofs.Ytogoplhikmmggaa
namespace Pv
open Go.RowKit

theorem getL_append {st : Nat → Option SE} : ∀ (a b : List Nat) (cs : List SE), getL st (a ++ b) = some cs → ∃ c1 c2, cs = c1 ++ c2 ∧ getL st a = some c1 ∧ getL st b = some c2
  | [], b, cs, h => ⟨[], cs, rfl, rfl, h⟩
  | x :: a, b, cs, h => by
    simp only [List.cons_append, getL] at h
    split at h
    · rename_i e es he hes
      injection h with h; subst h
      obtain ⟨c1, c2, rfl, h1, h2⟩ := getL_append a b es hes
      exact ⟨e :: c1, c2, rfl, by simp [getL, he, h1], h2⟩
    · cases h
theorem getL_one {st : Nat → Option SE} {r : Nat} {cs : List SE} (h : getL st [r] = some cs) : ∃ e, st r = some e ∧ cs = [e] := by
  simp only [getL] at h
  split at h
  · rename_i e es he hes
    injection h with h; subst h
    injection hes with hes; subst hes
    exact ⟨e, he, rfl⟩
  · cases h
theorem getL_mem {st : Nat → Option SE} : ∀ (l : List Nat) (cs : List SE), getL st l = some cs → ∀ r ∈ l, ∃ e, st r = some e ∧ e ∈ cs
  | [], cs, h, r, hr => by simp at hr
  | x :: l, cs, h, r, hr => by
    simp only [getL] at h
    split at h
    · rename_i e es he hes
      injection h with h; subst h
      rcases List.mem_cons.1 hr with rfl | hr
      · exact ⟨e, he, by simp⟩
      · obtain ⟨e', h1, h2⟩ := getL_mem l es hes r hr
        exact ⟨e', h1, by simp [h2]⟩
    · cases h

section
variable {P : Program} {X : Cx} {γ γ' : Gh} {w w' : World} {st st' : Nat → Option SE}

/-! ### literal slices -/
theorem fill_order {z : Nat} : ∀ (ps : List (Nat × Value)) (k : Nat) (cur : Array Value), (∀ j x, ps[j]? = some x → x.1 = k + j ∧ x.2.cells.size = z) → (k + ps.length) * z ≤ cur.size →
    ∃ cur', Instr.fill (fun i => some (i * z, z)) cur ps = some cur' ∧ cur'.toList = cur.toList.take (k * z) ++ (ps.map fun x => x.2.cells.toList).flatten ++ cur.toList.drop ((k + ps.length) * z)
  | [], k, cur, _, _ => ⟨cur, rfl, by simp⟩
  | (i, v) :: ps, k, cur, h, hsz => by
    obtain ⟨hi, hv⟩ := h 0 (i, v) rfl
    simp only at hi hv
    have hi : i = k := by omega
    subst hi
    have hle : (i + 1) * z ≤ (i + ((i, v) :: ps).length) * z := Nat.mul_le_mul_right z (by simp)
    have hfit : i * z + v.cells.size ≤ cur.size := by rw [hv]; have : (i + 1) * z = i * z + z := by rw [Nat.add_mul]; omega
                                                      omega
    have hz := zipIdx_foldl v.cells cur (i * z) hfit
    obtain ⟨cur', hc, hl⟩ := fill_order ps (i + 1) (v.cells.zipIdx.foldl (fun (a : Array Value) (p : Value × Nat) => a.setIfInBounds (i * z + p.2) p.1) cur) (fun j x hj => by
      obtain ⟨h1, h2⟩ := h (j + 1) x (by simpa using hj)
      exact ⟨by omega, h2⟩) (by
      have hs : (v.cells.zipIdx.foldl (fun (a : Array Value) (p : Value × Nat) => a.setIfInBounds (i * z + p.2) p.1) cur).size = cur.size := by
        have := congrArg List.length hz
        simp only [Array.length_toList, List.length_append, List.length_take, List.length_drop] at this
        rw [this]; omega
      rw [hs]
      have : (i + 1 + ps.length) * z = (i + ((i, v) :: ps).length) * z := by congr 1; simp; omega
      omega)
    refine ⟨cur', ?_, ?_⟩
    · simp only [Instr.fill]
      rw [if_neg (by simp [hv]; omega)]
      exact hc
    · rw [hl, hz]
      have hvl : v.cells.toList.length = z := by simpa using hv
      have e1 : (i + 1) * z = i * z + z := by rw [Nat.add_mul]; omega
      have e2 : (i + 1 + ps.length) * z = (i * z + z) + ps.length * z := by rw [Nat.add_mul, e1]
      have e3 : (i + ((i, v) :: ps).length) * z = (i * z + z) + ps.length * z := by rw [← e2]; congr 1; simp; omega
      have htl : (cur.toList.take (i * z)).length = i * z := by simp; omega
      rw [e1, e2, e3]
      have t1 : (cur.toList.take (i * z) ++ v.cells.toList ++ cur.toList.drop (i * z + v.cells.toList.length)).take (i * z + z) = cur.toList.take (i * z) ++ v.cells.toList := by
        rw [List.take_left' (by rw [List.length_append, htl, hvl])]
      have t2 : (cur.toList.take (i * z) ++ v.cells.toList ++ cur.toList.drop (i * z + v.cells.toList.length)).drop (i * z + z + ps.length * z) = cur.toList.drop (i * z + z + ps.length * z) := by
        rw [List.drop_append, List.drop_eq_nil_of_le (by rw [List.length_append, htl, hvl]; omega), List.nil_append, List.drop_drop, List.length_append, htl, hvl]
        congr 1; omega
      rw [t1, t2]
      simp

theorem frozen_sl {r : Nat} {ge : GE} {τ e z n : Nat} {f : Nat → List PV} {ids : List Nat} (hst : RepSt X γ w st) (hg : γ r = some ge) (he : st r = some (.row τ e z n f))
    (hlo : ∀ b, ge.blk = some b → X.lo ≤ b) (hr : ∀ p u, Rep X γ w p u → Rep X γ' w' (p.void ids) u) (hcell : ∀ a : Addr, a.block < w.heap.size → w'.cell? a = w.cell? a) (hsz : w.heap.size ≤ w'.heap.size)
    (hown : ∀ b, ge.blk = some b → ¬ γ'.own b) : Rep X γ' w' (.sl τ z n f) ge.hdr ∧ ge.hdr.oneCell' = true := by
  obtain ⟨vs, h1, h2, h3, ho, hrr⟩ := (hst.at_ r ge _ hg he).rows
  obtain ⟨ad, cap, hv, hnc, _, hor⟩ := own_slice ho
  refine ⟨?_, h3⟩
  rw [hv]
  refine (hrr.mono hr).sl hnc ?_ (fun a ha j u hu => ?_)
  · rcases hor with h0 | ⟨g, rfl, hlt, hb⟩
    · exact .inl h0
    · have hb' : ge.blk = some g := by rw [h2, hb]
      exact .inr ⟨_, rfl, ⟨hown g hb', .inl (hlo g hb')⟩, Nat.lt_of_lt_of_le hlt hsz⟩
  · have hc := own_cells ho hv ha j u hu
    have hlt : (a.add j).block < w.heap.size := World.block_lt_of_cell? w _ hc
    rw [hcell _ hlt]; exact hc

/-- What the cells of a literal's rows stand for. -/
theorem rowCells_sound {ids : List Nat} (hst : RepSt X γ w st) (hr : ∀ p u, Rep X γ w p u → Rep X γ' w' (p.void ids) u)
    (hfz : ∀ r ge τ e z n f, r ∈ ids → γ r = some ge → st r = some (.row τ e z n f) → Rep X γ' w' (.sl τ z n f) ge.hdr ∧ ge.hdr.oneCell' = true) :
    ∀ (ps : List PV) (us : List Value) (qs : List PV) (cs cs0 cs' : List SE), RepL X γ w ps us → (∀ r ∈ ps.flatMap PV.top, r ∈ ids) → getL st (ps.flatMap PV.top) = some cs0 → cs = cs0 ++ cs' → ∀ cs'', rowCells ps cs = some (qs, cs'') →
      cs'' = cs' ∧ qs.length = ps.length ∧ (∀ q ∈ qs, q.flat = true) ∧ RepL X γ' w' qs us ∧ ∀ u ∈ us, u.oneCell' = true
  | [], us, qs, cs, cs0, cs', hp, hid, h0, he, cs'', h => by
    cases hp.nil_inv
    simp only [rowCells, Option.some.injEq, Prod.mk.injEq] at h
    simp only [List.flatMap_nil, getL, Option.some.injEq] at h0
    subst h0
    obtain ⟨rfl, rfl⟩ := h
    exact ⟨by simpa using he, rfl, by simp, RepL.nil_, by simp⟩
  | p :: ps, us, qs, cs, cs0, cs', hp, hid, h0, he, cs'', h => by
    obtain ⟨u, us', rfl, hu, hus⟩ := hp.cons_inv
    rw [List.flatMap_cons] at h0 hid
    obtain ⟨c1, c2, rfl, hc1, hc2⟩ := getL_append _ _ _ h0
    simp only [rowCells] at h
    split at h
    · rename_i q cs1 hq
      split at h
      · rename_i qs' cs2 hqs
        simp only [Option.some.injEq, Prod.mk.injEq] at h
        obtain ⟨rfl, rfl⟩ := h
        have key : cs1 = c2 ++ cs' ∧ q.flat = true ∧ Rep X γ' w' q u ∧ u.oneCell' = true := by
          unfold rowCell at hq
          split at hq
          · rename_i r o e z n f cs3
            simp only [Option.some.injEq, Prod.mk.injEq] at hq
            obtain ⟨rfl, rfl⟩ := hq
            obtain ⟨e1, he1, rfl⟩ := getL_one hc1
            simp only [List.cons_append, List.nil_append, List.cons.injEq] at he
            obtain ⟨rfl, rfl⟩ := he
            obtain ⟨ge, hg, rfl⟩ := os_inv hu
            obtain ⟨h1, h2⟩ := hfz r ge _ _ _ _ _ (hid r (by simp [PV.top])) hg he1
            exact ⟨rfl, rfl, h1, h2⟩
          · simp only [Option.some.injEq, Prod.mk.injEq] at hq
            obtain ⟨rfl, rfl⟩ := hq
            simp only [PV.top, getL, Option.some.injEq] at hc1; subst hc1
            have := unnil_rep (hr _ _ hu)
            cases hu.nil_inv
            exact ⟨by simpa using he, rfl, this, rfl⟩
          · simp only [Option.some.injEq, Prod.mk.injEq] at hq
            obtain ⟨rfl, rfl⟩ := hq
            simp only [PV.top, getL, Option.some.injEq] at hc1; subst hc1
            have := hr _ _ hu
            cases hu.int_inv
            exact ⟨by simpa using he, rfl, this, rfl⟩
          · simp only [Option.some.injEq, Prod.mk.injEq] at hq
            obtain ⟨rfl, rfl⟩ := hq
            simp only [PV.top, getL, Option.some.injEq] at hc1; subst hc1
            have := hr _ _ hu
            cases hu.bool_inv
            exact ⟨by simpa using he, rfl, this, rfl⟩
          · simp only [Option.some.injEq, Prod.mk.injEq] at hq
            obtain ⟨rfl, rfl⟩ := hq
            simp only [PV.top, getL, Option.some.injEq] at hc1; subst hc1
            have := hr _ _ hu
            cases hu.str_inv
            exact ⟨by simpa using he, rfl, this, rfl⟩
          · simp only [Option.some.injEq, Prod.mk.injEq] at hq
            obtain ⟨rfl, rfl⟩ := hq
            simp only [PV.top, getL, Option.some.injEq] at hc1; subst hc1
            have := hr _ _ hu
            have h1 := hu.one_ rfl
            exact ⟨by simpa using he, rfl, this, h1⟩
          · simp only [Option.some.injEq, Prod.mk.injEq] at hq
            obtain ⟨rfl, rfl⟩ := hq
            simp only [PV.top, getL, Option.some.injEq] at hc1; subst hc1
            have h1 := hu.one_ rfl
            exact ⟨by simpa using he, rfl, hu.fn_nil, h1⟩
          · cases hq
        obtain ⟨rfl, hqf, hqr, hu1⟩ := key
        obtain ⟨h1, h2, h3, h4, h5⟩ := rowCells_sound hst hr hfz ps us' qs' (c2 ++ cs') c2 cs' hus (fun r hr => hid r (List.mem_append.2 (.inr hr))) hc2 rfl cs2 hqs
        refine ⟨h1, by simp [h2], fun x hx => ?_, RepL.cons_ hqr h4, fun x hx => ?_⟩
        · rcases List.mem_cons.1 hx with rfl | hx
          · exact hqf
          · exact h3 x hx
        · rcases List.mem_cons.1 hx with rfl | hx
          · exact hu1
          · exact h5 x hx
      · cases h
    · cases h

theorem top_cells (p : PV) (_ : p.okCell = true) : True := trivial

theorem rowsOf_sound {z : Nat} {ids : List Nat} (hst : RepSt X γ w st) (hr : ∀ p u, Rep X γ w p u → Rep X γ' w' (p.void ids) u)
    (hfz : ∀ r ge τ e z n f, r ∈ ids → γ r = some ge → st r = some (.row τ e z n f) → Rep X γ' w' (.sl τ z n f) ge.hdr ∧ ge.hdr.oneCell' = true) :
    ∀ (vs : List PV) (us : List Value) (rows : List (List PV)) (cs : List SE), RepL X γ w vs us → (∀ r ∈ vs.flatMap (fun p => p.cells.flatMap PV.top), r ∈ ids) → getL st (vs.flatMap fun p => p.cells.flatMap PV.top) = some cs → rowsOf z vs cs = some rows →
      rows.length = vs.length ∧ ∀ (i : Nat) (row : List PV) (u : Value), rows[i]? = some row → us[i]? = some u → row.length = z ∧ u.cells.size = z ∧ (∀ q ∈ row, q.flat = true) ∧ RepL X γ' w' row u.cells.toList ∧ ∀ x ∈ u.cells.toList, x.oneCell' = true
  | [], us, rows, cs, hv, hid, hg, h => by
    cases cs with
    | nil => simp only [rowsOf, Option.some.injEq] at h; subst h; exact ⟨rfl, fun i row u hi => by simp at hi⟩
    | cons _ _ => simp [rowsOf] at h
  | v :: vs, us, rows, cs, hv, hid, hg, h => by
    obtain ⟨u, us', rfl, hu, hus⟩ := hv.cons_inv
    rw [List.flatMap_cons] at hg hid
    obtain ⟨c1, c2, rfl, hc1, hc2⟩ := getL_append _ _ _ hg
    simp only [rowsOf] at h
    split at h
    · rename_i hz
      split at h
      · rename_i r cs' hrc
        split at h
        · rename_i rs hrs
          injection h with h; subst h
          -- the cells of v
          have hcells : ∃ ws : List Value, RepL X γ w v.cells ws ∧ u.cells.toList = ws := by
            by_cases ho : v.one = true
            · have h1 := hu.one_ ho
              exact ⟨_, by rw [cells_one h1, PV.cells_one ho]; exact RepL.cons_ hu RepL.nil_, rfl⟩
            · cases v with
              | agg l => obtain ⟨ws, rfl, hw, _⟩ := hu.agg_inv; exact ⟨ws, hw, rfl⟩
              | tup l => simp [PV.cells, rowCells, rowCell] at hrc
              | cnd g p => simp [PV.cells, rowCells, rowCell] at hrc
              | junk => simp [PV.cells, rowCells, rowCell] at hrc
              | vw h r lo n => simp [PV.cells, rowCells, rowCell] at hrc
              | _ => simp [PV.one] at ho
          obtain ⟨ws, hws, hwe⟩ := hcells
          obtain ⟨rfl, h2, h3, h4, h5⟩ := rowCells_sound hst hr hfz v.cells ws r (c1 ++ c2) c1 c2 hws (fun r hr => hid r (List.mem_append.2 (.inl hr))) hc1 rfl cs' hrc
          obtain ⟨i1, i2⟩ := rowsOf_sound hst hr hfz vs us' rs cs' hus (fun r hr => hid r (List.mem_append.2 (.inr hr))) hc2 hrs
          refine ⟨by simp [i1], fun i row x hi hx => ?_⟩
          cases i with
          | zero =>
            simp only [List.getElem?_cons_zero, Option.some.injEq] at hi hx
            subst hi; subst hx
            refine ⟨by rw [h2, hz], ?_, h3, by rw [hwe]; exact h4, by rw [hwe]; exact h5⟩
            have := hws.1
            rw [← hwe, hz] at this
            simpa using this
          | succ i => exact i2 i row x (by simpa using hi) (by simpa using hx)
        · cases h
      · cases h
    · cases h

theorem rowsOf_sizes {z : Nat} : ∀ (vs : List PV) (us : List Value) (rows : List (List PV)) (cs : List SE), RepL X γ w vs us → rowsOf z vs cs = some rows →
    rows.length = vs.length ∧ ∀ (i : Nat) (u : Value), us[i]? = some u → u.cells.size = z
  | [], us, rows, cs, hv, h => by
    cases hv.nil_inv
    cases cs with
    | nil => simp only [rowsOf, Option.some.injEq] at h; subst h; exact ⟨rfl, fun i u hi => by simp at hi⟩
    | cons _ _ => simp [rowsOf] at h
  | v :: vs, us, rows, cs, hv, h => by
    obtain ⟨u, us', rfl, hu, hus⟩ := hv.cons_inv
    simp only [rowsOf] at h
    split at h
    · rename_i hz
      split at h
      · rename_i r cs' hrc
        split at h
        · rename_i rs hrs
          injection h with h; subst h
          obtain ⟨i1, i2⟩ := rowsOf_sizes vs us' rs cs' hus hrs
          refine ⟨by simp [i1], fun i x hx => ?_⟩
          cases i with
          | zero =>
            simp only [List.getElem?_cons_zero, Option.some.injEq] at hx
            subst hx
            by_cases ho : v.one = true
            · have h1 := hu.one_ ho
              rw [cells_one h1]; rw [PV.cells_one ho] at hz; simpa using hz
            · cases v with
              | agg l =>
                obtain ⟨ws, rfl, hw, _⟩ := hu.agg_inv
                have := hw.1
                simp only [PV.cells] at hz
                simp only [Value.cells, List.size_toArray]; omega
              | tup l => simp [PV.cells, rowCells, rowCell] at hrc
              | cnd g p => simp [PV.cells, rowCells, rowCell] at hrc
              | junk => simp [PV.cells, rowCells, rowCell] at hrc
              | vw h r lo n => simp [PV.cells, rowCells, rowCell] at hrc
              | _ => simp [PV.one] at ho
          | succ i => exact i2 i x (by simpa using hx)
        · cases h
      · cases h
    · cases h

theorem flatten_get {z : Nat} : ∀ (ls : List (List Value)), (∀ l ∈ ls, l.length = z) → ∀ (i j : Nat) (l : List Value), ls[i]? = some l → j < z → ls.flatten[i * z + j]? = l[j]?
  | [], _, i, j, l, h, _ => by simp at h
  | a :: ls, hz, i, j, l, h, hj => by
    have ha := hz a (by simp)
    cases i with
    | zero =>
      simp only [List.getElem?_cons_zero, Option.some.injEq] at h; subst h
      rw [List.flatten_cons, List.getElem?_append_left (by omega)]
      congr 1; omega
    | succ i =>
      rw [List.flatten_cons, List.getElem?_append_right (by rw [ha, Nat.add_mul]; omega)]
      rw [← flatten_get ls (fun l hl => hz l (by simp [hl])) i j l (by simpa using h) hj]
      congr 1
      rw [ha, Nat.add_mul]; omega
theorem flatten_len {z : Nat} : ∀ (ls : List (List Value)), (∀ l ∈ ls, l.length = z) → ls.flatten.length = ls.length * z
  | [], _ => by simp
  | a :: ls, hz => by
    rw [List.flatten_cons, List.length_append, flatten_len ls (fun l hl => hz l (by simp [hl])), hz a (by simp), List.length_cons, Nat.add_mul]; omega

theorem rowCells_nobox : ∀ (ps qs : List PV) (cs cs0 cs' cs'' : List SE), getL st (ps.flatMap PV.top) = some cs0 → cs = cs0 ++ cs' → rowCells ps cs = some (qs, cs'') → cs'' = cs' ∧ ∀ r ∈ ps.flatMap PV.top, ∀ l, st r ≠ some (.box l)
  | [], qs, cs, cs0, cs', cs'', h0, he, h => by
    simp only [rowCells, Option.some.injEq, Prod.mk.injEq] at h
    simp only [List.flatMap_nil, getL, Option.some.injEq] at h0
    subst h0
    obtain ⟨rfl, rfl⟩ := h
    exact ⟨by simpa using he, by simp⟩
  | p :: ps, qs, cs, cs0, cs', cs'', h0, he, h => by
    rw [List.flatMap_cons] at h0
    obtain ⟨c1, c2, rfl, hc1, hc2⟩ := getL_append _ _ _ h0
    simp only [rowCells] at h
    split at h
    · rename_i q cs1 hq
      split at h
      · rename_i qs' cs2 hqs
        simp only [Option.some.injEq, Prod.mk.injEq] at h
        obtain ⟨rfl, rfl⟩ := h
        have key : cs1 = c2 ++ cs' ∧ ∀ r ∈ p.top, ∀ l, st r ≠ some (.box l) := by
          unfold rowCell at hq
          split at hq
          · rename_i r o e z n f cs3
            simp only [Option.some.injEq, Prod.mk.injEq] at hq
            obtain ⟨rfl, rfl⟩ := hq
            obtain ⟨e1, he1, rfl⟩ := getL_one hc1
            simp only [List.cons_append, List.nil_append, List.cons.injEq] at he
            obtain ⟨rfl, rfl⟩ := he
            refine ⟨rfl, fun r' hr' l hl => ?_⟩
            simp only [PV.top, List.mem_singleton] at hr'
            subst hr'
            rw [he1] at hl; cases hl
          all_goals first
            | (simp only [Option.some.injEq, Prod.mk.injEq] at hq
               obtain ⟨rfl, rfl⟩ := hq
               simp only [PV.top, getL, Option.some.injEq] at hc1; subst hc1
               exact ⟨by simpa using he, by simp [PV.top]⟩)
            | cases hq
        obtain ⟨rfl, hk⟩ := key
        obtain ⟨h1, h2⟩ := rowCells_nobox ps qs' _ c2 cs' cs2 hc2 rfl hqs
        refine ⟨h1, fun r hr => ?_⟩
        rw [List.flatMap_cons] at hr
        rcases List.mem_append.1 hr with hr | hr
        · exact hk r hr
        · exact h2 r hr
      · cases h
    · cases h
theorem rowsOf_nobox {z : Nat} : ∀ (vs : List PV) (rows : List (List PV)) (cs : List SE), rowsOf z vs cs = some rows → getL st (vs.flatMap fun p => p.cells.flatMap PV.top) = some cs → ∀ r ∈ vs.flatMap (fun p => p.cells.flatMap PV.top), ∀ l, st r ≠ some (.box l)
  | [], rows, cs, h, hg, r, hr => by simp at hr
  | v :: vs, rows, cs, h, hg, r, hr => by
    rw [List.flatMap_cons] at hg hr
    obtain ⟨c1, c2, rfl, hc1, hc2⟩ := getL_append _ _ _ hg
    simp only [rowsOf] at h
    split at h
    · split at h
      · rename_i r' cs' hrc
        split at h
        · rename_i rs hrs
          obtain ⟨rfl, h2⟩ := rowCells_nobox v.cells r' (c1 ++ c2) c1 c2 cs' hc1 rfl hrc
          rcases List.mem_append.1 hr with hr | hr
          · exact h2 r hr
          · exact rowsOf_nobox vs rs cs' hrs hc2 r hr
        · cases h
      · cases h
    · cases h

theorem inOrder_get : ∀ (k : Nat) (ps : List (Nat × Operand)), inOrder k ps = true → ∀ j x, ps[j]? = some x → x.1 = k + j
  | k, [], _, j, x, h => by simp at h
  | k, (i, o) :: ps, h, j, x, hj => by
    simp only [inOrder, Bool.and_eq_true, beq_iff_eq] at h
    cases j with
    | zero => simp only [List.getElem?_cons_zero, Option.some.injEq] at hj; subst hj; simpa using h.1
    | succ j => have := inOrder_get (k + 1) ps h.2 j x (by simpa using hj); omega

theorem bs_sound {t e n : Nat} {ps : Array (Nat × Operand)} {ρ : Operand → Value} {vs : List PV} {rows : List (List PV)} {ids : List Nat} {cs : List SE} {d : Nat} (hst : RepSt X γ w st) (hX : ∀ b, X.as b ∨ X.ls b → b < w.heap.size)
    (hlo : ∀ r ge b τ e z n f, γ r = some ge → st r = some (.row τ e z n f) → ge.blk = some b → X.lo ≤ b)
    (ht : P.underlying t = some (.slice e)) (ho : inOrder 0 ps.toList = true) (hn : ps.size = n) (hcap : n * P.cellsOf e ≤ 16777216) (hpos : 0 < P.cellsOf e) (hzf : zeroFits P e = true)
    (hv : RepL X γ w vs (ps.toList.map fun x => ρ x.2)) (hids : ids = vs.flatMap fun p => p.cells.flatMap PV.top) (hcs : getL st ids = some cs) (hrows : rowsOf (P.cellsOf e) vs cs = some rows)
    (E : Eff) (hEv : E.val = .os d) (hEw : E.wr = []) (hEn : E.nw = [.row (tauR rows) e (P.cellsOf e) rows.length (fun i => rows.getD i [])]) (hEk : E.kill = ids) (hEr : E.rm = ids)
    (hnew : newSt d E.kill E.rm E.wr E.nw st = some st') : Snd P X γ w st E st' (do pure (.value (← Instr.buildSlice t n (ps.map fun (i, x) => (i, ρ x))))) := by
  obtain ⟨inf, z, hi, hiz, hzs, his, hib⟩ := zeroFits_get hzf
  rw [hEk, hEr, hEw, hEn] at hnew
  simp only [newSt_eq, wrS, nwS] at hnew
  cases hd : rmS ids (voidS ids st) d with
  | some _ => rw [hd] at hnew; cases hnew
  | none =>
    rw [hd] at hnew; injection hnew with hnew; subst hnew
    let zs : Array Value := if n * P.cellsOf e = 0 then #[] else z.cells
    let cur0 : Array Value := (Array.range (n * P.cellsOf e)).map (zs[· % zs.size]!)
    have hc0 : cur0.size = n * P.cellsOf e := by simp [cur0]
    have hpl : (ps.map fun (i, x) => (i, ρ x)).toList = ps.toList.map fun x => (x.1, ρ x.2) := by simp
    have hps : ps.toList.length = n := by simpa using hn
    obtain ⟨hrl, hsz⟩ := rowsOf_sizes vs _ rows cs hv hrows
    have hvl : rows.length = n := by rw [hrl, ← hv.1]; simp [hps]
    obtain ⟨cur, hfill, hcur⟩ := fill_order (z := P.cellsOf e) (ps.toList.map fun x => (x.1, ρ x.2)) 0 cur0 (fun j x hj => by
      rw [List.getElem?_map] at hj
      obtain ⟨y, hy, rfl⟩ := Option.map_eq_some_iff.1 hj
      refine ⟨inOrder_get 0 _ ho j y hy, hsz j (ρ y.2) ?_⟩
      rw [List.getElem?_map, hy]; rfl) (by simp [hps, hc0])
    have hcl : cur.toList = ((ps.toList.map fun x => ρ x.2).map fun v => v.cells.toList).flatten := by
      rw [hcur]
      simp only [Nat.zero_mul, List.take_zero, List.nil_append, Nat.zero_add, List.length_map, hps, List.map_map]
      rw [List.drop_eq_nil_of_le (by simp [hc0]), List.append_nil]
      congr 1
    have hls : ∀ l ∈ (ps.toList.map fun x => ρ x.2).map (fun v => v.cells.toList), l.length = P.cellsOf e := by
      intro l hl
      obtain ⟨v, hv', rfl⟩ := List.mem_map.1 hl
      obtain ⟨k, hk⟩ := List.getElem?_of_mem hv'
      simpa using hsz k v hk
    have hcsz : cur.size = n * P.cellsOf e := by
      have := flatten_len _ hls
      rw [← hcl] at this
      simpa [hps] using this
    have hrun : (Instr.buildSlice t n (ps.map fun (i, x) => (i, ρ x))).run P w = .ok (.slice (some ⟨w.heap.size, 0, none⟩) n n) (w.alloc (.cells cur e)) := by
      have hbig : ¬ 16777216 < n * P.cellsOf e := by omega
      have hzv : (zeroValue e).run P w = .ok z w := by simp [zeroValue, run_typeInfo w hi, hiz]
      have hfin : (match Instr.fill (fun i => some (i * P.cellsOf e, P.cellsOf e)) cur0 (ps.toList.map fun (x : Nat × Operand) => (x.1, ρ x.2)) with
          | some cells => (do pure (Value.slice (some (← newRow e cells)) n n) : Sem Value)
          | x => stuck "buildSlice: a part of the wrong size").run P w = .ok (.slice (some ⟨w.heap.size, 0, none⟩) n n) (w.alloc (.cells cur e)) := by
        rw [hfill]; rfl
      unfold Instr.buildSlice
      simp only [Sem.run_bind, run_underlying ht, Result.andThen_ok, run_sizeOf w hi, gt_iff_lt, hpl]
      rw [if_neg (by simpa using hbig)]
      by_cases h0 : n * P.cellsOf e = 0
      · rw [if_pos h0, Sem.run_bind, Sem.run_pure, Result.andThen_ok]
        have e0 : cur0 = (Array.range (n * P.cellsOf e)).map ((#[] : Array Value)[· % (#[] : Array Value).size]!) := by simp [cur0, zs, h0]
        rw [e0] at hfin
        exact hfin
      · rw [if_neg h0, Sem.run_bind, hzv, Result.andThen_ok, Sem.run_bind, Sem.run_pure, Result.andThen_ok]
        have e0 : cur0 = (Array.range (n * P.cellsOf e)).map (z.cells[· % z.cells.size]!) := by simp [cur0, zs, h0]
        rw [e0] at hfin
        exact hfin
    have hown : (w.alloc (.cells cur e)).ownsRow 0 e (P.cellsOf e) (.slice (some ⟨w.heap.size, 0, none⟩) n n) n cur.toList := by
      refine ⟨by simpa using hcsz, .inr ⟨w.heap.size, n, cur, rfl, Nat.zero_le _, heap_alloc_new w _, Nat.le_refl _, ?_, hcsz, ?_⟩⟩
      · unfold maxLen
        have : n ≤ n * P.cellsOf e := Nat.le_mul_of_pos_right n hpos
        omega
      · rw [← hcsz, ← Array.length_toList, List.take_length]
    refine ⟨_, _, _, upd (fun r => if r ∈ ids then none else γ r) d ⟨some w.heap.size, .slice (some ⟨w.heap.size, 0, none⟩) n n, P.cellsOf e⟩, by simp only [Sem.run_bind, hrun, Result.andThen_ok, Sem.run_pure]; rfl, .inl rfl,
      EffOK.swap (ge := ⟨some w.heap.size, .slice (some ⟨w.heap.size, 0, none⟩) n n, P.cellsOf e⟩) hst hX hd ?_ hEk (alloc_keeps w _) ?_ (fun hmono => ?_) ?_⟩
    · intro r hr l hl
      exact rowsOf_nobox vs rows cs hrows (by rw [← hids]; exact hcs) r (by rw [← hids]; exact hr) l hl
    · intro b hb; injection hb with hb; subst hb; exact ⟨Nat.le_refl _, by simp⟩
    · obtain ⟨_, h2⟩ := rowsOf_sound hst hmono (fun r ge τ e' z' n' f' hr hg he => frozen_sl hst hg he (fun b hb => hlo r ge b _ _ _ _ _ hg he hb) hmono
        (fun a ha => World.cell?_alloc_lt w _ a ha) (by simp) (fun b hb ⟨r', g', hg', hb'⟩ => by
          by_cases hr' : r' = d
          · subst hr'; rw [upd_same] at hg'; injection hg' with hg'; subst hg'
            injection hb' with hb'
            have := hst.lt b ⟨r, ge, hg, hb⟩
            omega
          · rw [upd_ne _ _ hr'] at hg'
            split at hg'
            · cases hg'
            · rename_i hni
              exact hni (by rw [hst.inj r' r g' ge b hg' hg hb' hb]; exact hr))) vs _ rows cs hv (by rw [hids]; exact fun r hr => hr) (by rw [← hids]; exact hcs) hrows
      have hat : ∀ i, i < rows.length → ∃ u, (ps.toList.map fun x => ρ x.2)[i]? = some u := fun i hi => by
        have : i < (ps.toList.map fun x => ρ x.2).length := by rw [hv.1, ← hrl]; exact hi
        exact ⟨_, List.getElem?_eq_getElem this⟩
      have hget : ∀ i, i < rows.length → rows[i]? = some (rows.getD i []) := fun i hi => by simp [List.getD, List.getElem?_eq_getElem hi]
      refine RowsRep.repS (vs := cur.toList) ⟨?_, fun u hu => ?_, fun i hi => ?_, fun i hi c hc => ?_, fun i j c u hi hc hu => ?_⟩ rfl rfl rfl (by rw [hvl]; exact hown)
      · rw [hvl]; simpa using hcsz
      · rw [hcl] at hu
        obtain ⟨l, hl, hul⟩ := List.mem_flatten.1 hu
        obtain ⟨v, hv', rfl⟩ := List.mem_map.1 hl
        obtain ⟨k, hk⟩ := List.getElem?_of_mem hv'
        have hkl : k < rows.length := by rw [hrl, ← hv.1]; exact (List.getElem?_eq_some_iff.1 hk).1
        exact (h2 k _ v (hget k hkl) hk).2.2.2.2 u hul
      · obtain ⟨u, hu⟩ := hat i hi
        exact (h2 i _ u (hget i hi) hu).1
      · obtain ⟨u, hu⟩ := hat i hi
        exact (h2 i _ u (hget i hi) hu).2.2.1 c hc
      · obtain ⟨v, hv'⟩ := hat i hi
        obtain ⟨k1, k2, k3, k4, k5⟩ := h2 i _ v (hget i hi) hv'
        have hj : j < P.cellsOf e := by rw [← k1]; exact (List.getElem?_eq_some_iff.1 hc).1
        rw [hcl, flatten_get _ hls i j v.cells.toList (by rw [List.getElem?_map, hv']; rfl) hj] at hu
        refine (k4.2 j c u hc hu).mark_up _ ?_
        exact Nat.le_trans (tauL_le _ c (List.mem_of_getElem? hc)) (tauR_le rows _ (List.mem_of_getElem? (hget i hi)))
    · rw [hEv]
      exact .os d ⟨some w.heap.size, .slice (some ⟨w.heap.size, 0, none⟩) n n, P.cellsOf e⟩ (upd_same _ _ _) rfl
end
end Pv
end Go.Proofs.Ytogoplhikmmggaa
