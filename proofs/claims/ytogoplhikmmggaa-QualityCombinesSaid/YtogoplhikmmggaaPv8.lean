/- SLICES: reading, cutting, making, appending. -/
import Derived.Test.YtogoplhikmmggaaPv7
set_option linter.unusedSimpArgs false
set_option linter.unusedVariables false
namespace Go.Proofs.Ytogoplhikmmggaa
namespace Pv
open Go.RowKit

/-- n rows of z cells, as a list of real cells. -/
structure RowsRep (X : Cx) (γ : Gh) (w : World) (τ z n : Nat) (f : Nat → List PV) (vs : List Value) : Prop where
  len : vs.length = n * z
  one : ∀ u ∈ vs, u.oneCell' = true
  hz : ∀ i, i < n → (f i).length = z
  hf : ∀ i, i < n → ∀ c ∈ f i, c.flat = true
  rep : ∀ (i j : Nat) (c : PV) (u : Value), i < n → (f i)[j]? = some c → vs[i * z + j]? = some u → Rep X γ w (c.mark τ) u

section
variable {P : Program} {X : Cx} {γ γ' : Gh} {w w' : World} {st st' : Nat → Option SE}

theorem idx_lt {i j n z : Nat} (hi : i < n) (hj : j < z) : i * z + j < n * z :=
  calc i * z + j < i * z + z := by omega
    _ = (i + 1) * z := by rw [Nat.add_mul]; omega
    _ ≤ n * z := Nat.mul_le_mul_right _ hi

theorem RowsRep.mono {τ z n : Nat} {f : Nat → List PV} {vs : List Value} {ks : List Nat} (h : RowsRep X γ w τ z n f vs) (hr : ∀ p u, Rep X γ w p u → Rep X γ' w' (p.void ks) u) : RowsRep X γ' w' τ z n f vs :=
  ⟨h.len, h.one, h.hz, h.hf, fun i j c u hi hc hu => by
    have := hr _ _ (h.rep i j c u hi hc hu)
    rwa [flat_void (h.hf i hi c (List.mem_of_getElem? hc))] at this⟩

theorem Rep.mark_le {c : PV} {u : Value} {τ τ' : Nat} (h : Rep X γ w (c.mark τ) u) (ht : τ ≤ τ') : Rep X γ w (c.mark τ') u := by
  have := h.mark_up τ' (Nat.le_trans (tau_mark c τ) ht)
  rwa [mark_mark] at this

theorem RowsRep.up {τ τ' z n : Nat} {f : Nat → List PV} {vs : List Value} (h : RowsRep X γ w τ z n f vs) (ht : τ ≤ τ') : RowsRep X γ w τ' z n f vs :=
  ⟨h.len, h.one, h.hz, h.hf, fun i j c u hi hc hu => (h.rep i j c u hi hc hu).mark_le ht⟩

theorem RowsRep.app {τ τ' z n m : Nat} {f f' : Nat → List PV} {vs ws : List Value} (h : RowsRep X γ w τ z n f vs) (h' : RowsRep X γ w τ' z m f' ws) :
    RowsRep X γ w (max τ τ') z (n + m) (appF n f f') (vs ++ ws) := by
  refine ⟨by rw [List.length_append, h.len, h'.len, Nat.add_mul], fun u hu => ?_, fun i hi => ?_, fun i hi => ?_, fun i j c u hi hc hu => ?_⟩
  · rcases List.mem_append.1 hu with h1 | h1
    · exact h.one u h1
    · exact h'.one u h1
  · unfold appF; split
    · exact h.hz i ‹_›
    · exact h'.hz _ (by omega)
  · unfold appF; split
    · exact h.hf i ‹_›
    · exact h'.hf _ (by omega)
  · unfold appF at hc
    split at hc
    · rename_i hlt
      have hj : j < z := by rw [← h.hz i hlt]; exact (List.getElem?_eq_some_iff.1 hc).1
      have hk : i * z + j < vs.length := by rw [h.len]; exact idx_lt hlt hj
      rw [List.getElem?_append_left hk] at hu
      exact (h.rep i j c u hlt hc hu).mark_le (Nat.le_max_left _ _)
    · rename_i hge
      have hlt : i - n < m := by omega
      have hk : vs.length ≤ i * z + j := by rw [h.len]; exact Nat.le_trans (Nat.mul_le_mul_right z (by omega : n ≤ i)) (Nat.le_add_right _ _)
      rw [List.getElem?_append_right hk] at hu
      have e : i * z + j - vs.length = (i - n) * z + j := by
        rw [h.len]
        have : i * z = (i - n) * z + n * z := by rw [← Nat.add_mul]; congr 1; omega
        omega
      rw [e] at hu
      exact (h'.rep _ j c u hlt hc hu).mark_le (Nat.le_max_right _ _)

theorem RepS.rows {ge : GE} {τ e z n : Nat} {f : Nat → List PV} (h : RepS X γ w ge (.row τ e z n f)) :
    ∃ vs, ge.z = z ∧ ge.blk = ge.hdr.ownBlock ∧ ge.hdr.oneCell' = true ∧ w.ownsRow 0 e z ge.hdr n vs ∧ RowsRep X γ w τ z n f vs := by
  obtain ⟨vs, h1, h2, h2', h3, h4, h5, h6, h7⟩ := h
  exact ⟨vs, h1, h2, h2', h3, h3.1, h4, h5, h6, h7⟩
theorem RowsRep.repS {ge : GE} {τ e z n : Nat} {f : Nat → List PV} {vs : List Value} (h : RowsRep X γ w τ z n f vs) (h1 : ge.z = z) (h2 : ge.blk = ge.hdr.ownBlock) (h3 : ge.hdr.oneCell' = true)
    (h4 : w.ownsRow 0 e z ge.hdr n vs) : RepS X γ w ge (.row τ e z n f) :=
  ⟨vs, h1, h2, h3, h4, h.one, h.hz, h.hf, h.rep⟩

theorem own_slice {e z n : Nat} {v : Value} {vs : List Value} (h : w.ownsRow 0 e z v n vs) : ∃ ad cap, v = .slice ad n cap ∧ n ≤ cap ∧ cap ≤ maxLen ∧ (n = 0 ∨ ∃ g, ad = some ⟨g, 0, none⟩ ∧ g < w.heap.size ∧ v.ownBlock = some g) := by
  rcases h.2 with ⟨rfl, rfl⟩ | ⟨g, cap, cur, rfl, _, hg, hnc, hcm, _⟩
  · exact ⟨none, 0, rfl, Nat.le_refl _, Nat.zero_le _, .inl rfl⟩
  · exact ⟨_, cap, rfl, hnc, hcm, .inr ⟨g, rfl, (Array.getElem?_eq_some_iff.1 hg).1, rfl⟩⟩

theorem own_cells {e z n : Nat} {v : Value} {vs : List Value} {ad : Option Addr} {cap : Nat} {a : Addr} (h : w.ownsRow 0 e z v n vs) (hv : v = .slice ad n cap) (ha : ad = some a) :
    ∀ j u, vs[j]? = some u → w.cell? (a.add j) = some u := by
  subst hv; subst ha
  rcases h.2 with ⟨hh, _⟩ | ⟨g, cap', cur, hh, _⟩
  · cases hh
  · injection hh with h1 _ _; injection h1 with h1
    subst h1
    exact h.cells (g := g) rfl

/-- A slice as rows. -/
theorem sl_rows {τ z n : Nat} {f : Nat → List PV} {v : Value} (h : Rep X γ w (.sl τ z n f) v) : ∃ ad cap vs, v = .slice ad n cap ∧ n ≤ cap ∧ RowsRep X γ w τ z n f vs ∧
    (n = 0 ∨ ∃ a, ad = some a ∧ mayLie X γ τ a.block ∧ a.block < w.heap.size) ∧ ∀ a, ad = some a → ∀ j u, vs[j]? = some u → w.cell? (a.add j) = some u := by
  cases h with
  | sl _ _ _ _ ad cap vs hcap hz hf hb h =>
    refine ⟨ad, cap, (List.range (n * z)).map vs, rfl, hcap, ⟨by simp, fun u hu => ?_, hz, hf, fun i j c u hi hc hu => ?_⟩, ?_, fun a ha j u hu => ?_⟩
    · obtain ⟨k, hk, rfl⟩ := List.mem_map.1 hu
      have hk := List.mem_range.1 hk
      have hz0 : 0 < z := by rcases Nat.eq_zero_or_pos z with h0 | h0; · subst h0; simp at hk
                             · exact h0
      have hi : k / z < n := (Nat.div_lt_iff_lt_mul hz0).2 hk
      have hj : k % z < (f (k / z)).length := by rw [hz _ hi]; exact Nat.mod_lt _ hz0
      have := h (k / z) (k % z) _ hi (List.getElem?_eq_getElem hj)
      have hfl := hf _ hi _ (List.getElem_mem hj)
      rw [Nat.div_add_mod' k z] at this
      refine this.one_ ?_
      generalize (f (k / z))[k % z] = c at hfl
      cases c <;> simp_all [PV.flat, PV.mark, PV.one]
    · have hj : j < z := by rw [← hz i hi]; exact (List.getElem?_eq_some_iff.1 hc).1
      have hk : i * z + j < n * z := idx_lt hi hj
      simp [hk] at hu
      subst hu
      exact h i j c hi hc
    · rcases Nat.eq_zero_or_pos n with h0 | h0
      · exact .inl h0
      · obtain ⟨a, ha, hm, hlt, _⟩ := hb h0
        exact .inr ⟨a, ha, hm, hlt⟩
    · have hk : j < n * z := by have := (List.getElem?_eq_some_iff.1 hu).1; simpa using this
      have h0 : 0 < n := by rcases Nat.eq_zero_or_pos n with h0 | h0; · subst h0; simp at hk
                            · exact h0
      obtain ⟨a', ha', _, _, hc⟩ := hb h0
      rw [ha] at ha'; injection ha' with ha'; subst ha'
      simp [hk] at hu
      rw [hc j hk, hu]

/-- Rows in memory that nobody writes are a slice. -/
theorem RowsRep.sl {τ z n : Nat} {f : Nat → List PV} {vs : List Value} {ad : Option Addr} {cap : Nat} (h : RowsRep X γ w τ z n f vs) (hcap : n ≤ cap)
    (hb : n = 0 ∨ ∃ a, ad = some a ∧ mayLie X γ τ a.block ∧ a.block < w.heap.size) (hc : ∀ a, ad = some a → ∀ j u, vs[j]? = some u → w.cell? (a.add j) = some u) : Rep X γ w (.sl τ z n f) (.slice ad n cap) := by
  refine .sl τ z n f ad cap (fun k => vs.getD k undef) hcap h.hz h.hf (fun h0 => ?_) (fun i j c hi hj => ?_)
  · rcases hb with hb | ⟨a, ha, hm, hlt⟩
    · omega
    · refine ⟨a, ha, hm, hlt, fun k hk => ?_⟩
      have hk' : k < vs.length := by rw [h.len]; exact hk
      rw [hc a ha k vs[k] (List.getElem?_eq_getElem hk')]
      simp [List.getD, List.getElem?_eq_getElem hk']
  · have hjz : j < z := by rw [← h.hz i hi]; exact (List.getElem?_eq_some_iff.1 hj).1
    have hk : i * z + j < vs.length := by rw [h.len]; exact idx_lt hi hjz
    have := h.rep i j c vs[i * z + j] hi hj (List.getElem?_eq_getElem hk)
    simpa [List.getD, List.getElem?_eq_getElem hk] using this

/-- A view of rows of the call's own. -/
theorem vw_rows {h : Bool} {r lo m n : Nat} {τ e z : Nat} {f : Nat → List PV} {u : Value} (hst : RepSt X γ w st) (hy : Rep X γ w (.vw h r lo m) u) (he : st r = some (.row τ e z n f)) :
    ∃ ad cap vs, u = .slice ad m cap ∧ m ≤ cap ∧ RowsRep X γ w τ z m (fun i => f (lo + i)) vs ∧ (ad = none → m = 0) ∧ ∀ a, ad = some a → ∀ j u, vs[j]? = some u → w.cell? (a.add j) = some u := by
  cases hy with
  | vw _ _ _ _ ge ad m0 cap hg hh hle h0 =>
  obtain ⟨vs, hz, hb, h1, ho, hr⟩ := (hst.at_ _ _ _ hg he).rows
  obtain ⟨ad', cap', hv, hnc, hcm, hor⟩ := own_slice ho
  rw [hh] at hv
  injection hv with e1 e2 e3
  subst e1; subst e2; subst e3
  rw [hz]
  refine ⟨_, _, (vs.drop (lo * z)).take (m * z), rfl, by omega, ⟨?_, fun u hu => hr.one u (List.mem_of_mem_drop (List.mem_of_mem_take hu)), fun i hi => hr.hz _ (by omega), fun i hi => hr.hf _ (by omega), fun i j c u hi hc' hu => ?_⟩, fun hn => ?_, fun a ha j u hu => ?_⟩
  · rw [List.length_take, List.length_drop, hr.len]
    have : m * z ≤ m0 * z - lo * z := by rw [← Nat.sub_mul]; exact Nat.mul_le_mul_right z (by omega)
    omega
  · have hj : j < z := by rw [← hr.hz (lo + i) (by omega)]; exact (List.getElem?_eq_some_iff.1 hc').1
    rw [List.getElem?_take, if_pos (idx_lt hi hj), List.getElem?_drop] at hu
    refine hr.rep (lo + i) j c u (by omega) hc' ?_
    rw [← hu]; congr 1; rw [Nat.add_mul]; omega
  · by_cases hc : cap = lo
    · omega
    · rw [if_neg hc] at hn
      rcases hor with h0 | ⟨g, h0, _⟩
      · omega
      · rw [h0] at hn; cases hn
  · have hm : j < m * z := by
      have := (List.getElem?_eq_some_iff.1 hu).1
      rw [List.length_take] at this; omega
    by_cases hc : cap = lo
    · rw [show m = 0 by omega, Nat.zero_mul] at hm; omega
    · rw [if_neg hc] at ha
      rw [List.getElem?_take, if_pos hm, List.getElem?_drop] at hu
      cases had : ad with
      | none => rw [had] at ha; cases ha
      | some a0 =>
        rw [had] at ha
        simp only [Option.map_some, Option.some.injEq] at ha
        subst ha
        rw [add_add_]
        exact own_cells ho hh had _ _ hu

/-- The first rows of a slice of the call's own: they are the call's own, cut short. -/
theorem head_own {r lo h n : Nat} {τ e z : Nat} {f : Nat → List PV} {v : Value} (hst : RepSt X γ w st) (hy : Rep X γ w (.vw true r lo h) v) (he : st r = some (.row τ e z n f)) :
    ∃ ge vs, γ r = some ge ∧ ge.z = z ∧ v.ownBlock = ge.blk ∧ w.ownsRow 0 e z v h vs ∧ RowsRep X γ w τ z h f vs := by
  cases hy with
  | vw _ _ _ _ ge ad m0 cap hg hh hle h0 =>
  obtain ⟨vs, hz, hb, h1, ho, hr⟩ := (hst.at_ _ _ _ hg he).rows
  obtain ⟨ad', cap', hv, hnc, hcm, hor⟩ := own_slice ho
  rw [hh] at hv
  injection hv with e1 e2 e3
  subst e1; subst e2; subst e3
  have hl0 := h0 rfl
  subst hl0
  have had' : ad = none ∨ ∃ g, ad = some ⟨g, 0, none⟩ := by
    rcases ho.2 with ⟨h2, _⟩ | ⟨g, cap', cur, h2, _⟩ <;> rw [hh] at h2 <;> injection h2 with e1 _ _
    · exact .inl e1
    · exact .inr ⟨g, e1⟩
  have hmap : (if cap = 0 then ad else ad.map (·.add (0 * ge.z))) = ad := by
    split
    · rfl
    · rcases had' with rfl | ⟨g, rfl⟩
      · rfl
      · rw [Nat.zero_mul]; rfl
  rw [hmap]
  have ho' : w.ownsRow 0 e z (.slice ad h (cap - 0)) h (vs.take (h * z)) := by
    have hle' : h * z ≤ m0 * z := Nat.mul_le_mul_right _ (by omega)
    refine ⟨by rw [List.length_take, hr.len]; omega, ?_⟩
    rcases ho.2 with ⟨h2, h3⟩ | ⟨g, cap', cur, h2, _, hgg, hnc', hcm', hsz, htk⟩
    · rw [hh] at h2; injection h2 with e1 e2 e3
      subst e1 e3
      left; exact ⟨by rw [show h = 0 by omega], by omega⟩
    · rw [hh] at h2; injection h2 with e1 e2 e3
      subst e1 e3
      exact .inr ⟨g, cap, cur, rfl, Nat.zero_le _, hgg, by omega, hcm', hsz, by rw [← htk, List.take_take, Nat.min_eq_left hle']⟩
  refine ⟨ge, vs.take (h * z), hg, hz, by rw [hb, hh]; cases ad <;> rfl, ho', ⟨ho'.1, fun u hu => hr.one u (List.mem_of_mem_take hu), fun j hj => hr.hz j (by omega), fun j hj => hr.hf j (by omega), fun j j' c u hj hc hu => ?_⟩⟩
  have hj' : j' < z := by rw [← hr.hz j (by omega)]; exact (List.getElem?_eq_some_iff.1 hc).1
  rw [List.getElem?_take, if_pos (idx_lt hj hj')] at hu
  exact hr.rep j j' c u (by omega) hc hu

/-! ### what an append takes over -/
theorem src_rows {y : PV} {u : Value} {ids : List Nat} {cs : List SE} {τ z m : Nat} {f : Nat → List PV} (hst : RepSt X γ w st) (hy : Rep X γ w y u) (hids : ids = y.top) (hcs : getL st ids = some cs)
    (h : srcRows y cs = some (τ, z, m, f)) : ∃ ad cap vs, u = .slice ad m cap ∧ m ≤ cap ∧ RowsRep X γ w τ z m f vs ∧ (ad = none → m = 0) ∧ ∀ a, ad = some a → ∀ j u, vs[j]? = some u → w.cell? (a.add j) = some u := by
  unfold srcRows at h
  split at h
  · injection h with h; injection h with h1 h; injection h with h2 h; injection h with h3 h4
    subst h1; subst h2; subst h3; subst h4
    obtain ⟨ad, cap, vs, rfl, hcap, hr, hb, hc⟩ := sl_rows hy
    refine ⟨ad, cap, vs, rfl, hcap, hr, fun hn => ?_, hc⟩
    rcases hb with hb | ⟨a, ha, _⟩
    · exact hb
    · rw [ha] at hn; cases hn
  · injection h with h; injection h with h1 h; injection h with h2 h; injection h with h3 h4
    subst h1; subst h2; subst h3; subst h4
    cases hy.nil_inv
    exact ⟨none, 0, [], rfl, Nat.le_refl _, ⟨by simp, by simp, by simp, by simp, by simp⟩, fun _ => rfl, fun a ha => by cases ha⟩
  · rename_i r τ' e z' n f'
    injection h with h; injection h with h1 h; injection h with h2 h; injection h with h3 h4
    subst h1; subst h2; subst h3; subst h4
    obtain ⟨ge, hg, rfl⟩ := os_inv hy
    subst hids
    simp only [PV.top, getL] at hcs
    split at hcs
    · rename_i e1 es he1 he2
      injection hcs with hcs; injection hcs with h1 h2
      subst h1
      obtain ⟨vs, hz, hb, h1', ho, hr⟩ := (hst.at_ _ _ _ hg he1).rows
      obtain ⟨ad, cap, hv, hnc, _, hor⟩ := own_slice ho
      refine ⟨ad, cap, vs, hv, hnc, hr, fun hn => ?_, fun a ha => own_cells ho hv ha⟩
      rcases hor with h0 | ⟨g, h0, _⟩
      · exact h0
      · rw [h0] at hn; cases hn
    · cases hcs
  · rename_i hb r lo m' τ' e z' n f'
    injection h with h; injection h with h1 h; injection h with h2 h; injection h with h3 h4
    subst h1; subst h2; subst h3; subst h4
    subst hids
    simp only [PV.top, getL] at hcs
    split at hcs
    · rename_i e1 es he1 he2
      injection hcs with hcs; injection hcs with h1 h2
      subst h1
      exact vw_rows hst hy he1
    · cases hcs
  · cases h

theorem zeroFits_get {e : TypeId} (h : zeroFits P e = true) : ∃ i z, P.info? e = some i ∧ i.zero = some z ∧ z.cells.size = P.cellsOf e ∧ i.size = P.cellsOf e ∧ i.bytes = P.bytesOf e := by
  unfold zeroFits at h
  split at h
  · rename_i i hi
    split at h
    · rename_i z hz
      exact ⟨i, z, hi, hz, by simpa using h, by simp [Program.cellsOf, hi], by simp [Program.bytesOf, hi]⟩
    · cases h
  · cases h

/-- append onto rows of the call's own. -/
theorem run_app {t e : TypeId} {v : Value} {n m : Nat} {ad : Option Addr} {cap : Nat} {xs news : List Value} (ty : TypeId) (ht : P.underlying t = some (.slice e)) (hzf : zeroFits P e = true) (hpos : 0 < P.cellsOf e)
    (ho : w.ownsRow 0 e (P.cellsOf e) v n xs) (hl : news.length = m * P.cellsOf e) (h1 : ∀ u ∈ news, u.oneCell' = true) (hn : ad = none → m = 0)
    (hc : ∀ a, ad = some a → ∀ j u, news[j]? = some u → w.cell? (a.add j) = some u) (hby : (n + m) * P.bytesOf e ≤ 140737488355328) (h63 : n + m ≤ maxLen) :
    ∃ v' w', (Builtin.append_ #[t, t] ty #[v, .slice ad m cap]).run P w = .ok v' w' ∧ w'.ownsRow 0 e (P.cellsOf e) v' (n + m) (xs ++ news) ∧ w.grownBy w' v.ownBlock ∧
      (v'.ownBlock = v.ownBlock ∨ v'.ownBlock = some w.heap.size) := by
  obtain ⟨i, z, hi, hz, hzs, hs, hb⟩ := zeroFits_get hzf
  cases ad with
  | some a => 
    obtain ⟨v', w', h1', h2, h3, _, h5⟩ := run_append_own_at (P := P) w 0 t ty e i z _ _ ht hi hz hs hb hzs hpos v n xs ho a m cap news hl (hc a rfl) h1 h63 hby (Nat.zero_le _)
    exact ⟨v', w', h1', h2, h3, h5⟩
  | none =>
    have hm := hn rfl
    subst hm
    have hnil : news = [] := List.eq_nil_of_length_eq_zero (by simpa using hl)
    subst hnil
    refine ⟨v, w, ?_, by simpa using ho, ⟨rfl, rfl, rfl, Nat.le_refl _, fun _ _ _ => rfl⟩, .inl rfl⟩
    rcases ho.2 with ⟨rfl, rfl⟩ | ⟨g, cap', cur, rfl, _, _, hnc, _⟩
    · simp [Builtin.append_, run_underlying ht, sizeOf, typeInfo, hi, Builtin.lenOf, Builtin.firstCells]
    · simp [Builtin.append_, run_underlying ht, sizeOf, typeInfo, hi, Builtin.lenOf, Builtin.firstCells, hnc, storeCells]

theorem own_lt' {e z n : Nat} {v : Value} {vs : List Value} (h : w.ownsRow 0 e z v n vs) : ∀ b, v.ownBlock = some b → b < w.heap.size := fun b hb => (h.lt b hb).2

theorem slice_one {e z n : Nat} {v : Value} {vs : List Value} (h : w.ownsRow 0 e z v n vs) : v.oneCell' = true := by
  obtain ⟨ad, cap, rfl, _⟩ := own_slice h; rfl

theorem app_os_sound {t e : TypeId} {r : Nat} {y : PV} {u v : Value} {τ τ' n m : Nat} {f f' : Nat → List PV} {cs : List SE} (ty : TypeId) (hst : RepSt X γ w st) (hX : ∀ b, X.as b ∨ X.ls b → b < w.heap.size)
    (ht : P.underlying t = some (.slice e)) (hzf : zeroFits P e = true) (hpos : 0 < P.cellsOf e) (hv : Rep X γ w (.os r) v) (hy : Rep X γ w y u) (he : st r = some (.row τ e (P.cellsOf e) n f))
    (hcs : getL st y.top = some cs) (hsrc : srcRows y cs = some (τ', P.cellsOf e, m, f')) (hby : (n + m) * P.bytesOf e ≤ 140737488355328) (h63 : n + m ≤ maxLen)
    (E : Eff) (hEv : E.val = .os r) (hEw : E.wr = [(r, .row (max τ τ') e (P.cellsOf e) (n + m) (appF n f f'))]) (hEn : E.nw = []) (hEk : E.kill = [r]) (hEr : E.rm = [])
    (hn : newSt 0 E.kill E.rm E.wr E.nw st = some st') : Snd P X γ w st E st' (do pure (.value (← Builtin.append_ #[t, t] ty #[v, u]))) := by
  obtain ⟨ge, hg, rfl⟩ := os_inv hv
  obtain ⟨vs, hz, hb, h1, ho, hr⟩ := (hst.at_ _ _ _ hg he).rows
  obtain ⟨ad, cap, ws, rfl, hmc, hr', hnone, hc⟩ := src_rows hst hy rfl hcs hsrc
  obtain ⟨v', w', hrun, ho', hgr, hbl⟩ := run_app (P := P) (cap := cap) ty ht hzf hpos ho hr'.len hr'.one hnone hc hby h63
  have hk : Keeps (fun b => ge.blk = some b) w w' := ⟨hgr.os, hgr.tape, hgr.output, hgr.size, fun b hlt hne => hgr.block b hlt (by rw [← hb]; exact fun h => hne h.symm)⟩
  rw [hEk, hEr, hEw, hEn] at hn
  simp only [newSt_eq, rmS_nil, wrS, nwS, Option.some.injEq] at hn
  subst hn
  refine ⟨_, v', w', upd γ r ⟨v'.ownBlock, v', P.cellsOf e⟩, by simp only [Sem.run_bind, hrun, Result.andThen_ok, Sem.run_pure], .inl rfl,
    EffOK.app (ge' := ⟨v'.ownBlock, v', P.cellsOf e⟩) hst hX hg he (fun l hl => by cases hl) hEk hk (fun b hb' => ?_) (fun b hb' => own_lt' ho' b hb') (fun hmono => ?_) ?_⟩
  · rcases hbl with h | h
    · exact .inl (by rw [hb, ← h]; exact hb')
    · right
      have : some w.heap.size = some b := by rw [← h]; exact hb'
      injection this with this; omega
  · exact ((hr.app hr').mono hmono).repS rfl rfl (slice_one ho') ho'
  · rw [hEv]
    exact .os r ⟨v'.ownBlock, v', P.cellsOf e⟩ (upd_same _ _ _) (slice_one ho')

/-- append behind the first rows of a slice of the call's own: what lay behind them is written over. -/
theorem app_vw_sound {t e : TypeId} {r lo : Nat} {y : PV} {u v : Value} {τ τ' n h m : Nat} {f f' : Nat → List PV} {cs : List SE} (ty : TypeId) (hst : RepSt X γ w st) (hX : ∀ b, X.as b ∨ X.ls b → b < w.heap.size)
    (ht : P.underlying t = some (.slice e)) (hzf : zeroFits P e = true) (hpos : 0 < P.cellsOf e) (hv : Rep X γ w (.vw true r lo h) v) (hy : Rep X γ w y u) (he : st r = some (.row τ e (P.cellsOf e) n f))
    (hcs : getL st y.top = some cs) (hsrc : srcRows y cs = some (τ', P.cellsOf e, m, f')) (hby : (h + m) * P.bytesOf e ≤ 140737488355328) (h63 : h + m ≤ maxLen)
    (E : Eff) (hEv : E.val = .os r) (hEw : E.wr = [(r, .row (max τ τ') e (P.cellsOf e) (h + m) (appF h f f'))]) (hEn : E.nw = []) (hEk : E.kill = [r]) (hEr : E.rm = [])
    (hn : newSt 0 E.kill E.rm E.wr E.nw st = some st') : Snd P X γ w st E st' (do pure (.value (← Builtin.append_ #[t, t] ty #[v, u]))) := by
  obtain ⟨ge, vs, hg, hz, hb, ho, hr⟩ := head_own hst hv he
  obtain ⟨ad, cap, ws, rfl, hmc, hr', hnone, hc⟩ := src_rows hst hy rfl hcs hsrc
  obtain ⟨v', w', hrun, ho', hgr, hbl⟩ := run_app (P := P) (cap := cap) ty ht hzf hpos ho hr'.len hr'.one hnone hc hby h63
  have hk : Keeps (fun b => ge.blk = some b) w w' := ⟨hgr.os, hgr.tape, hgr.output, hgr.size, fun b hlt hne => hgr.block b hlt (by rw [hb]; exact fun h => hne h.symm)⟩
  rw [hEk, hEr, hEw, hEn] at hn
  simp only [newSt_eq, rmS_nil, wrS, nwS, Option.some.injEq] at hn
  subst hn
  refine ⟨_, v', w', upd γ r ⟨v'.ownBlock, v', P.cellsOf e⟩, by simp only [Sem.run_bind, hrun, Result.andThen_ok, Sem.run_pure], .inl rfl,
    EffOK.app (ge' := ⟨v'.ownBlock, v', P.cellsOf e⟩) hst hX hg he (fun l hl => by cases hl) hEk hk (fun b hb' => ?_) (fun b hb' => own_lt' ho' b hb') (fun hmono => ?_) ?_⟩
  · rcases hbl with h | h
    · exact .inl (by rw [← hb, ← h]; exact hb')
    · right
      have : some w.heap.size = some b := by rw [← h]; exact hb'
      injection this with this; omega
  · exact ((hr.app hr').mono hmono).repS rfl rfl (slice_one ho') ho'
  · rw [hEv]
    exact .os r ⟨v'.ownBlock, v', P.cellsOf e⟩ (upd_same _ _ _) (slice_one ho')

theorem app_nil_sound {t e : TypeId} {y : PV} {u v : Value} {z0 τ' m d : Nat} {f' : Nat → List PV} {cs : List SE} (ty : TypeId) (hst : RepSt X γ w st) (hX : ∀ b, X.as b ∨ X.ls b → b < w.heap.size)
    (ht : P.underlying t = some (.slice e)) (hzf : zeroFits P e = true) (hpos : 0 < P.cellsOf e) (hv : Rep X γ w (.nil z0) v) (hy : Rep X γ w y u)
    (hcs : getL st y.top = some cs) (hsrc : srcRows y cs = some (τ', P.cellsOf e, m, f')) (hby : m * P.bytesOf e ≤ 140737488355328) (h63 : m ≤ maxLen)
    (E : Eff) (hEv : E.val = .os d) (hEw : E.wr = []) (hEn : E.nw = [.row τ' e (P.cellsOf e) m f']) (hEk : E.kill = []) (hEr : E.rm = [])
    (hn : newSt d E.kill E.rm E.wr E.nw st = some st') : Snd P X γ w st E st' (do pure (.value (← Builtin.append_ #[t, t] ty #[v, u]))) := by
  cases hv.nil_inv
  obtain ⟨ad, cap, ws, rfl, hmc, hr', hnone, hc⟩ := src_rows hst hy rfl hcs hsrc
  obtain ⟨v', w', hrun, ho', hgr, hbl⟩ := run_app (P := P) (cap := cap) ty ht hzf hpos (World.ownsRow_nil w 0 e (P.cellsOf e)) hr'.len hr'.one hnone hc (by simpa using hby) (by simpa using h63)
  simp only [Nat.zero_add, List.nil_append] at ho'
  have hk : Keeps (fun _ => False) w w' := ⟨hgr.os, hgr.tape, hgr.output, hgr.size, fun b hlt hne => hgr.block b hlt (by simp [Value.ownBlock])⟩
  rw [hEk, hEr, hEw, hEn] at hn
  simp only [newSt_eq, voidS_nil, rmS_nil, wrS, nwS] at hn
  cases hd : st d with
  | some _ => rw [hd] at hn; cases hn
  | none =>
    rw [hd] at hn; injection hn with hn; subst hn
    refine ⟨_, v', w', upd γ d ⟨v'.ownBlock, v', P.cellsOf e⟩, by simp only [Sem.run_bind, hrun, Result.andThen_ok, Sem.run_pure], .inl rfl,
      EffOK.add (ge := ⟨v'.ownBlock, v', P.cellsOf e⟩) hst hX hd hEk hk (fun b hb' => ⟨?_, own_lt' ho' b hb'⟩) (fun hmono => ?_) (fun _ => ?_)⟩
    · rcases hbl with h | h
      · rw [h] at hb'; simp [Value.ownBlock] at hb'
      · have : some w.heap.size = some b := by rw [← h]; exact hb'
        injection this with this; omega
    · exact (hr'.mono (ks := []) (fun p u h => by rw [void_nil]; exact hmono p u h)).repS rfl rfl (slice_one ho') ho'
    · rw [hEv]
      exact .os d ⟨v'.ownBlock, v', P.cellsOf e⟩ (upd_same _ _ _) (slice_one ho')

/-! ### reading and cutting -/
theorem len_sound {t e : TypeId} {p : PV} {u : Value} {n : Nat} {cs : List SE} (ty : TypeId) (hst : RepSt X γ w st) (ht : P.underlying t = some (.slice e)) (hp : Rep X γ w p u)
    (hcs : getL st p.top = some cs)
    (hn : (match (generalizing := false) p, cs with | .sl _ _ m _, _ => n = m | .nil _, _ => n = 0 | .os _, [.row _ _ _ m _] => n = m | _, _ => False)) :
    (Builtin.len_ #[t] ty #[u]).run P w = .ok (.int .i64 (n : Int)) w := by
  cases p with
  | sl τ z m f =>
    have hn' : n = m := hn
    rw [hn']
    obtain ⟨ad, cap, vs, rfl, _⟩ := sl_rows hp
    simp [Builtin.len_, run_underlying ht, goInt]
  | nil z =>
    obtain rfl := hn
    cases hp.nil_inv
    simp [Builtin.len_, run_underlying ht, goInt]
  | os r =>
    obtain ⟨ge, hg, rfl⟩ := os_inv hp
    simp only [PV.top, getL] at hcs
    split at hcs
    · rename_i e1 es he1 he2
      injection hcs with hcs; subst hcs
      simp only [Option.some.injEq] at he2; subst he2
      cases e1 with
      | box l => exact hn.elim
      | row τ e z m f =>
        have hn' : n = m := hn
        rw [hn']
        obtain ⟨vs, _, _, _, ho, _⟩ := (hst.at_ _ _ _ hg he1).rows
        obtain ⟨ad, cap, hv, _⟩ := own_slice ho
        rw [hv]
        simp [Builtin.len_, run_underlying ht, goInt]
    · cases hcs
  | _ => exact hn.elim
theorem lens_sound {t : TypeId} {s : List UInt8} {u : Value} (ty : TypeId) (ht : P.underlying t = some .string) (hp : Rep X γ w (.str s) u) :
    (Builtin.len_ #[t] ty #[u]).run P w = .ok (.int .i64 (s.length : Int)) w := by
  cases hp.str_inv
  simp [Builtin.len_, run_underlying ht, goInt]; rfl

theorem cut_sl {τ z n l h : Nat} {f : Nat → List PV} {ad : Option Addr} {cap : Nat} (hp : Rep X γ w (.sl τ z n f) (.slice ad n cap)) (hl : l ≤ h) (hh : h ≤ n) :
    Rep X γ w (.sl τ z (h - l) (fun i => f (l + i))) (.slice (if cap = l then ad else ad.map (·.add (l * z))) (h - l) (cap - l)) := by
  obtain ⟨ad', cap', vs, e, hcap, hr, hb, hc⟩ := sl_rows hp
  injection e with e1 _ e3; subst e1; subst e3
  refine RowsRep.sl (vs := (vs.drop (l * z)).take ((h - l) * z)) ⟨?_, fun u hu => hr.one u (List.mem_of_mem_drop (List.mem_of_mem_take hu)), fun i hi => hr.hz _ (by omega), fun i hi => hr.hf _ (by omega), fun i j c u hi hc' hu => ?_⟩ (by omega) ?_ (fun a ha j u hu => ?_)
  · rw [List.length_take, List.length_drop, hr.len]
    have : (h - l) * z ≤ n * z - l * z := by rw [← Nat.sub_mul]; exact Nat.mul_le_mul_right z (by omega)
    omega
  · have hj : j < z := by rw [← hr.hz (l + i) (by omega)]; exact (List.getElem?_eq_some_iff.1 hc').1
    rw [List.getElem?_take, if_pos (idx_lt hi hj), List.getElem?_drop] at hu
    refine hr.rep (l + i) j c u (by omega) hc' ?_
    rw [← hu]; congr 1; rw [Nat.add_mul]; omega
  · rcases Nat.eq_zero_or_pos (h - l) with h0 | h0
    · exact .inl h0
    · right
      rcases hb with hb | ⟨a, rfl, hm, hlt⟩
      · omega
      · rw [if_neg (by omega)]
        exact ⟨a.add (l * z), rfl, by rw [add_block]; exact hm, by rw [add_block]; exact hlt⟩
  · rw [List.getElem?_take] at hu
    split at hu
    · rename_i hk
      rw [List.getElem?_drop] at hu
      have h0 : 0 < h - l := by rcases Nat.eq_zero_or_pos (h - l) with h0 | h0
                                · rw [h0] at hk; omega
                                · exact h0
      rw [if_neg (by omega)] at ha
      obtain ⟨a0, ha0, rfl⟩ := Option.map_eq_some_iff.1 ha
      rw [add_add_]
      exact hc a0 ha0 _ u hu
    · cases hu

theorem run_bound {v : Value} {k : IntKind} {i : Int} {y : Nat} {code : BoundsCode} (hv : v = .int k i) (h0 : 0 ≤ i) (h1 : i.toNat ≤ y) : (Instr.sliceBound v y code).run P w = .ok i.toNat w := by
  subst hv
  have : i ≤ y := by omega
  simp [Instr.sliceBound, asIntOf, h0, this]

/-- 's[l:h]', either end left out or not. -/
theorem slc_sound {t e : TypeId} {τ n : Nat} {f : Nat → List PV} {u : Value} {lo hi : Option Value} {l h : Nat} (ht : P.underlying t = some (.slice e)) (hpos : 0 < P.cellsOf e) (hp : Rep X γ w (.sl τ (P.cellsOf e) n f) u)
    (hlo : (lo = none ∧ l = 0) ∨ ∃ k i, lo = some (.int k i) ∧ 0 ≤ i ∧ l = i.toNat) (hhi : (hi = none ∧ h = n) ∨ ∃ k i, hi = some (.int k i) ∧ 0 ≤ i ∧ h = i.toNat) (hl : l ≤ h) (hh : h ≤ n) :
    ∃ v, (Instr.sliceAt t u lo hi none).run P w = .ok v w ∧ Rep X γ w (.sl τ (P.cellsOf e) (h - l) (fun i => f (l + i))) v := by
  obtain ⟨i, hi', hs⟩ := info_of_size hpos
  obtain ⟨ad, cap, vs, rfl, hcap, _⟩ := sl_rows hp
  refine ⟨_, ?_, cut_sl hp hl hh⟩
  have hb : (Instr.sliceBounds true n cap lo hi none).run P w = .ok (l, h, cap) w := by
    unfold Instr.sliceBounds
    rcases hhi with ⟨a1, a2⟩ | ⟨k, i, a1, h0, a2⟩
    · rcases hlo with ⟨b1, b2⟩ | ⟨k', i', b1, h0', b2⟩
      · simp [a1, a2, b1, b2]
      · have e2 := run_bound (P := P) (w := w) (code := .sliceB) (rfl : Value.int k' i' = _) h0' (by omega : i'.toNat ≤ n)
        simp [a1, a2, b1, b2, e2]
    · have e1 := run_bound (P := P) (w := w) (code := .sliceAcap) (y := cap) (rfl : Value.int k i = _) h0 (by omega)
      rcases hlo with ⟨b1, b2⟩ | ⟨k', i', b1, h0', b2⟩
      · simp [a1, a2, b1, b2, e1]
      · have e2 := run_bound (P := P) (w := w) (code := .sliceB) (rfl : Value.int k' i' = _) h0' (by omega : i'.toNat ≤ i.toNat)
        simp [a1, a2, b1, b2, e1, e2]
  simp [Instr.sliceAt, Instr.slice, run_underlying ht, hb, run_sizeOf w hi']

/-- 's[l:h]' of a slice of the call's own: a view. -/
theorem slc_vw_sound {t e e' : TypeId} {r n : Nat} {τ : Nat} {f : Nat → List PV} {u : Value} {lo hi : Option Value} {l h : Nat} {b : Bool} (hst : RepSt X γ w st) (ht : P.underlying t = some (.slice e)) (hpos : 0 < P.cellsOf e)
    (hp : Rep X γ w (.os r) u) (he : st r = some (.row τ e' (P.cellsOf e) n f))
    (hlo : (lo = none ∧ l = 0) ∨ ∃ k i, lo = some (.int k i) ∧ 0 ≤ i ∧ l = i.toNat) (hhi : (hi = none ∧ h = n) ∨ ∃ k i, hi = some (.int k i) ∧ 0 ≤ i ∧ h = i.toNat) (hl : l ≤ h) (hh : h ≤ n) (hb0 : b = true → l = 0) :
    ∃ v, (Instr.sliceAt t u lo hi none).run P w = .ok v w ∧ Rep X γ w (.vw b r l (h - l)) v := by
  obtain ⟨i, hi', hs⟩ := info_of_size hpos
  obtain ⟨ge, hg, rfl⟩ := os_inv hp
  obtain ⟨vs, hz, hb, h1, ho, hr⟩ := (hst.at_ _ _ _ hg he).rows
  obtain ⟨ad, cap, hhdr, hcap, hcm, had⟩ := own_slice ho
  refine ⟨_, ?_, .vw b r l (h - l) ge ad n cap hg hhdr (by omega) hb0⟩
  have hb : (Instr.sliceBounds true n cap lo hi none).run P w = .ok (l, h, cap) w := by
    unfold Instr.sliceBounds
    rcases hhi with ⟨a1, a2⟩ | ⟨k, i, a1, h0, a2⟩
    · rcases hlo with ⟨b1, b2⟩ | ⟨k', i', b1, h0', b2⟩
      · simp [a1, a2, b1, b2]
      · have e2 := run_bound (P := P) (w := w) (code := .sliceB) (rfl : Value.int k' i' = _) h0' (by omega : i'.toNat ≤ n)
        simp [a1, a2, b1, b2, e2]
    · have e1 := run_bound (P := P) (w := w) (code := .sliceAcap) (y := cap) (rfl : Value.int k i = _) h0 (by omega)
      rcases hlo with ⟨b1, b2⟩ | ⟨k', i', b1, h0', b2⟩
      · simp [a1, a2, b1, b2, e1]
      · have e2 := run_bound (P := P) (w := w) (code := .sliceB) (rfl : Value.int k' i' = _) h0' (by omega : i'.toNat ≤ i.toNat)
        simp [a1, a2, b1, b2, e1, e2]
  rw [hhdr, hz]
  simp [Instr.sliceAt, Instr.slice, run_underlying ht, hb, run_sizeOf w hi']

/-- The first rows of a slice of the call's own, given to a variable: the slice is cut short. -/
theorem mv_vw_sound {r lo h n : Nat} {e z : Nat} {τ : Nat} {f : Nat → List PV} {v : Value} {d : Nat} (hst : RepSt X γ w st) (hX : ∀ b, X.as b ∨ X.ls b → b < w.heap.size)
    (hv : Rep X γ w (.vw true r lo h) v) (he : st r = some (.row τ e z n f))
    (E : Eff) (hEv : E.val = .os r) (hEw : E.wr = [(r, .row τ e z h f)]) (hEn : E.nw = []) (hEk : E.kill = [r]) (hEr : E.rm = [])
    (hn : newSt d E.kill E.rm E.wr E.nw st = some st') : Snd P X γ w st E st' (pure (.value v)) := by
  obtain ⟨ge, vs, hg, hz, hb, ho, hr⟩ := head_own hst hv he
  rw [hEk, hEr, hEw, hEn] at hn
  simp only [newSt_eq, rmS_nil, wrS, nwS, Option.some.injEq] at hn
  subst hn
  refine ⟨_, v, w, upd γ r ⟨ge.blk, v, z⟩, by simp only [Sem.run_pure], .inl rfl,
    EffOK.app (ge' := ⟨ge.blk, v, z⟩) hst hX hg he (fun l hl => by cases hl) hEk (Keeps.refl _ w) (fun b hb' => .inl hb') (fun b hb' => hst.lt b ⟨r, ge, hg, hb'⟩) (fun hmono => ?_) ?_⟩
  · exact (hr.mono hmono).repS rfl hb.symm (slice_one ho) ho
  · rw [hEv]
    exact .os r ⟨ge.blk, v, z⟩ (upd_same _ _ _) (slice_one ho)

theorem extract_mk (s : List UInt8) (l h : Nat) : (⟨s.toArray⟩ : ByteArray).extract l h = ⟨((s.take h).drop l).toArray⟩ := by
  ext1
  simp [List.extract, List.drop_take]

theorem slcs_sound {t : TypeId} {s : List UInt8} {u : Value} {lo hi : Option Value} {l h : Nat} (ht : P.underlying t = some .string) (hp : Rep X γ w (.str s) u)
    (hlo : (lo = none ∧ l = 0) ∨ ∃ k i, lo = some (.int k i) ∧ 0 ≤ i ∧ l = i.toNat) (hhi : (hi = none ∧ h = s.length) ∨ ∃ k i, hi = some (.int k i) ∧ 0 ≤ i ∧ h = i.toNat) (hl : l ≤ h) (hh : h ≤ s.length) :
    ∃ v, (Instr.sliceAt t u lo hi none).run P w = .ok v w ∧ Rep X γ w (.str ((s.take h).drop l)) v := by
  cases hp.str_inv
  refine ⟨_, ?_, .str _⟩
  have hsz : (⟨s.toArray⟩ : ByteArray).size = s.length := rfl
  have hb : (Instr.sliceBounds false s.length s.length lo hi none).run P w = .ok (l, h, s.length) w := by
    unfold Instr.sliceBounds
    rcases hhi with ⟨a1, a2⟩ | ⟨k, i, a1, h0, a2⟩
    · rcases hlo with ⟨b1, b2⟩ | ⟨k', i', b1, h0', b2⟩
      · simp [a1, a2, b1, b2]
      · have e2 := run_bound (P := P) (w := w) (code := .sliceB) (rfl : Value.int k' i' = _) h0' (by omega : i'.toNat ≤ s.length)
        simp [a1, a2, b1, b2, e2]
    · have e1 := run_bound (P := P) (w := w) (code := .sliceAlen) (y := s.length) (rfl : Value.int k i = _) h0 (by omega)
      rcases hlo with ⟨b1, b2⟩ | ⟨k', i', b1, h0', b2⟩
      · simp [a1, a2, b1, b2, e1]
      · have e2 := run_bound (P := P) (w := w) (code := .sliceB) (rfl : Value.int k' i' = _) h0' (by omega : i'.toNat ≤ i.toNat)
        simp [a1, a2, b1, b2, e1, e2]
  simp [Instr.sliceAt, Instr.slice, run_underlying ht, hsz, hb, extract_mk]

/-! ### making -/
theorem unnil_rep {c : PV} {u : Value} (h : Rep X γ w c u) : Rep X γ w c.unnil u := by
  cases c <;> try exact h
  cases h.nil_inv
  exact .sl 0 _ 0 _ none 0 (fun _ => undef) (Nat.le_refl _) (fun i hi => by omega) (fun i hi => by omega) (fun hi => by omega) (fun i j c hi => by omega)

theorem tauL_mem : ∀ (l : List PV), tauL l = 0 → ∀ c ∈ l, c.tau = 0
  | [], _, c, hc => by simp at hc
  | p :: ps, h, c, hc => by
    simp only [tauL] at h
    rcases List.mem_cons.1 hc with rfl | hc
    · omega
    · exact tauL_mem ps (by omega) c hc
theorem tauL_le : ∀ (l : List PV), ∀ c ∈ l, c.tau ≤ tauL l
  | [], c, hc => by simp at hc
  | p :: ps, c, hc => by
    simp only [tauL]
    rcases List.mem_cons.1 hc with rfl | hc
    · omega
    · have := tauL_le ps c hc; omega
theorem tauR_le : ∀ (l : List (List PV)), ∀ r ∈ l, tauL r ≤ tauR l
  | [], c, hc => by simp at hc
  | p :: ps, c, hc => by
    simp only [tauR]
    rcases List.mem_cons.1 hc with rfl | hc
    · omega
    · have := tauR_le ps c hc; omega

theorem mks_sound {t e : TypeId} {k k' : IntKind} {n c : Int} {zero : List PV} {d : Nat} (hst : RepSt X γ w st) (hX : ∀ b, X.as b ∨ X.ls b → b < w.heap.size)
    (ht : P.underlying t = some (.slice e)) (hpos : 0 < P.cellsOf e) (hz : zeroOf P e = some zero) (hfl : (zero.map PV.unnil).all PV.flat = true) (hl : (zero.map PV.unnil).length = P.cellsOf e) (htau : tauL (zero.map PV.unnil) = 0)
    (h0 : 0 ≤ n) (h1 : n ≤ c) (h2 : c * P.bytesOf e ≤ 140737488355328) (h3 : c ≤ maxLen)
    (E : Eff) (hEv : E.val = .os d) (hEw : E.wr = []) (hEn : E.nw = [.row 0 e (P.cellsOf e) n.toNat (fun _ => zero.map PV.unnil)]) (hEk : E.kill = []) (hEr : E.rm = [])
    (hn : newSt d E.kill E.rm E.wr E.nw st = some st') : Snd P X γ w st E st' (do pure (.value (← Instr.makeSlice t (.int k n) (.int k' c)))) := by
  obtain ⟨z, _, hzr, hz1, hzs, i, hi, hiz, his, hib⟩ := zeroOf_rep (X := X) (γ := γ) (w := w) hz
  have hrun := run_make (P := P) w t e i z ht hi hiz k k' n c h0 h1 (by rw [hib, Int.mul_comm]; omega) (by unfold maxLen at h3; omega)
  rw [hEk, hEr, hEw, hEn] at hn
  simp only [newSt_eq, voidS_nil, rmS_nil, wrS, nwS] at hn
  cases hd : st d with
  | some _ => rw [hd] at hn; cases hn
  | none =>
    rw [hd] at hn; injection hn with hn; subst hn
    have hcm : n.toNat ≤ c.toNat := by omega
    have hzl : z.cells.toList.length = P.cellsOf e := by simpa using hzs
    have hcs : ∀ j, j < n.toNat * P.cellsOf e → (madeCells z.cells (c.toNat * i.size)).toList[j]? = z.cells.toList[j % P.cellsOf e]? := fun j hj => by
      have hjc : j < c.toNat * P.cellsOf e := Nat.lt_of_lt_of_le hj (Nat.mul_le_mul_right _ hcm)
      have hm : j % P.cellsOf e < z.cells.size := by rw [hzs]; exact Nat.mod_lt _ hpos
      simp only [madeCells, Array.toList_map, Array.toList_range, his, hzs]
      rw [List.getElem?_map, List.getElem?_range hjc]
      simp [hm]
    have hown : (w.alloc (.cells (madeCells z.cells (c.toNat * i.size)) e)).ownsRow 0 e (P.cellsOf e) (.slice (some ⟨w.heap.size, 0, none⟩) n.toNat c.toNat) n.toNat ((madeCells z.cells (c.toNat * i.size)).toList.take (n.toNat * P.cellsOf e)) := by
      refine ⟨?_, .inr ⟨w.heap.size, c.toNat, _, rfl, Nat.zero_le _, heap_alloc_new w _, hcm, by omega, by rw [size_madeCells, his], rfl⟩⟩
      rw [List.length_take]
      have : (madeCells z.cells (c.toNat * i.size)).toList.length = c.toNat * P.cellsOf e := by rw [Array.length_toList, size_madeCells, his]
      rw [this]
      exact Nat.min_eq_left (Nat.mul_le_mul_right _ hcm)
    have hget : ∀ j u, ((madeCells z.cells (c.toNat * i.size)).toList.take (n.toNat * P.cellsOf e))[j]? = some u → j < n.toNat * P.cellsOf e ∧ z.cells.toList[j % P.cellsOf e]? = some u := fun j u hu => by
      rw [List.getElem?_take] at hu
      split at hu
      · exact ⟨‹_›, by rw [← hcs j ‹_›]; exact hu⟩
      · cases hu
    have hrows : ∀ (γ' : Gh) (w' : World), (∀ p u, Rep X γ w p u → Rep X γ' w' p u) → RowsRep X γ' w' 0 (P.cellsOf e) n.toNat (fun _ => zero.map PV.unnil) ((madeCells z.cells (c.toNat * i.size)).toList.take (n.toNat * P.cellsOf e)) := fun γ' w' hm => by
      refine ⟨hown.1, fun u hu => ?_, fun _ _ => hl, fun _ _ c hc => List.all_eq_true.1 hfl c hc, fun a j c u ha hc hu => ?_⟩
      · obtain ⟨j, hj⟩ := List.getElem?_of_mem hu
        exact hz1 u (List.mem_of_getElem? (hget j u hj).2)
      · have hj : j < P.cellsOf e := by rw [← hl]; exact (List.getElem?_eq_some_iff.1 hc).1
        have hu' := (hget _ u hu).2
        have e1 : (a * P.cellsOf e + j) % P.cellsOf e = j := by rw [Nat.mul_add_mod_self_right]; exact Nat.mod_eq_of_lt hj
        rw [e1] at hu'
        rw [List.getElem?_map] at hc
        obtain ⟨c0, hc0, rfl⟩ := Option.map_eq_some_iff.1 hc
        have := unnil_rep (hzr.2 j c0 u hc0 hu')
        have hm0 := this.mark_up 0
        refine hm _ _ (hm0 ?_)
        exact Nat.le_of_eq (tauL_mem _ htau _ (List.mem_map.2 ⟨c0, List.mem_of_getElem? hc0, rfl⟩))
    refine ⟨_, _, _, upd γ d ⟨some w.heap.size, .slice (some ⟨w.heap.size, 0, none⟩) n.toNat c.toNat, P.cellsOf e⟩, by simp only [Sem.run_bind, hrun, Result.andThen_ok, Sem.run_pure]; rfl, .inl rfl,
      EffOK.add (ge := ⟨some w.heap.size, .slice (some ⟨w.heap.size, 0, none⟩) n.toNat c.toNat, P.cellsOf e⟩) hst hX hd hEk (alloc_keeps w _) (fun b hb' => ?_) (fun hmono => ?_) (fun _ => ?_)⟩
    · injection hb' with hb'; subst hb'; exact ⟨Nat.le_refl _, by simp⟩
    · exact (hrows _ _ hmono).repS rfl rfl rfl hown
    · rw [hEv]
      exact .os d ⟨some w.heap.size, .slice (some ⟨w.heap.size, 0, none⟩) n.toNat c.toNat, P.cellsOf e⟩ (upd_same _ _ _) rfl
end
end Pv
end Go.Proofs.Ytogoplhikmmggaa
