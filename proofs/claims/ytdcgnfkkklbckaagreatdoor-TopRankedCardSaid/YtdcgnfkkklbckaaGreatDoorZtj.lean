/- A LAW's ROW, FROM ITS FUNCTION's CONTRACT: slices of slices that came in. -/
import Derived.Test.YtdcgnfkkklbckaaGreatDoorZtf
import Derived.ProofKit
import Derived.ChangeOld
import Derived.DataElems
import Derived.Below
import Derived.SizedLaws
/- ARGUMENTS AS THEY COME IN: what a readable argument stands for. -/
set_option linter.unusedSimpArgs false
set_option linter.unusedVariables false
namespace Go.Proofs.YtdcgnfkkklbckaaGreatDoor
namespace Pv
open Go.RowKit Go.ChangeShapes
inductive Sh where
  | int (k : IntKind)
  | bool
  | str
  | sl (shs : List Sh)
  deriving Inhabited
inductive ShR : Sh → PV → Prop where
  | int (k : IntKind) (n : Int) (h : inR k n) : ShR (.int k) (.int k n)
  | bool (b : Bool) : ShR .bool (.bool b)
  | str (s : List UInt8) (h : s.length ≤ maxLen) : ShR .str (.str s)
  | sl (shs : List Sh) (n : Nat) (f : Nat → List PV) (hn : n ≤ maxLen) (h1 : ∀ i, i < n → (f i).length = shs.length)
      (h2 : ∀ (i j : Nat) (s : Sh) (p : PV), i < n → shs[j]? = some s → (f i)[j]? = some p → ShR s p) : ShR (.sl shs) (.sl 1 shs.length n f)
def ShL (shs : List Sh) (ps : List PV) : Prop := ps.length = shs.length ∧ ∀ (j : Nat) (s : Sh) (p : PV), shs[j]? = some s → ps[j]? = some p → ShR s p
def fieldSh (sh : TypeId → Option (List Sh)) (P : Program) : Nat → List Field → Option (List Sh)
  | _, [] => some []
  | off, f :: fs => if f.offset = off then match sh f.type with
      | some s => if s.length = P.cellsOf f.type then match fieldSh sh P (off + s.length) fs with
          | some r => some (s ++ r)
          | none => none
        else none
      | none => none
    else none
def shp (P : Program) : Nat → TypeId → Option (List Sh)
  | 0, _ => none
  | m + 1, t => match P.underlying t with
    | some .bool => some [.bool]
    | some (.int k) => some [.int k]
    | some .string => some [.str]
    | some (.slice e) => match shp P m e with
      | some s => if s.length = P.cellsOf e ∧ 0 < s.length then some [.sl s] else none
      | none => none
    | some (.struct fs) => match fieldSh (shp P m) P 0 fs.toList with
      | some s => if s.length = P.cellsOf t then some s else none
      | none => none
    | _ => none
theorem ShR.flat {s : Sh} {p : PV} (h : ShR s p) : p.flat = true := by cases h <;> rfl
theorem ShR.mark1 {s : Sh} {p : PV} (h : ShR s p) : p.mark 1 = p := by cases h <;> rfl
theorem ShL.append {a b : List Sh} {x y : List PV} (h : ShL a x) (h' : ShL b y) : ShL (a ++ b) (x ++ y) := by
  refine ⟨by simp [h.1, h'.1], fun j s p hs hp => ?_⟩
  rw [List.getElem?_append] at hs hp
  rw [h.1] at hp
  split at hs
  · rename_i hj; rw [if_pos hj] at hp; exact h.2 j s p hs hp
  · rename_i hj; rw [if_neg hj] at hp; exact h'.2 _ s p hs hp
section
variable {H : Type} {enc : TypeId × Value → H} {P : Program} {w : World} {sp : Nat → Bool} {held : Bool} {X : Cx} {γ : Gh}
theorem trod_fields {m n : Nat} {cs : List Value} {xs : List (DataW H × List MemPlace)}
    (ih : ∀ (t : TypeId) (cs : List Value) (x : DataW H × List MemPlace) (shs : List Sh), shp P m t = some shs → DataW.trod enc P w 0 sp held n t cs = some x → ∃ ps, ShL shs ps ∧ RepL X γ w ps cs ∧ ∀ u ∈ cs, u.oneCell' = true) :
    ∀ (fs : List Field) (off k : Nat) (shs : List Sh), fieldSh (shp P m) P off fs = some shs → off + shs.length = cs.length → (∀ i f, fs[i]? = some f → DataW.trod enc P w 0 sp held n f.type ((cs.drop f.offset).take (P.cellsOf f.type)) = xs[k + i]?) → k + fs.length = xs.length →
      ∃ ps, ShL shs ps ∧ RepL X γ w ps (cs.drop off) ∧ ∀ u ∈ cs.drop off, u.oneCell' = true
  | [], off, k, shs, h, hl, hx, hk => by
    simp only [fieldSh, Option.some.injEq] at h; subst h
    have e : cs.drop off = [] := List.drop_eq_nil_of_le (by simpa using hl.symm ▸ Nat.le_refl _)
    rw [e]
    exact ⟨[], ⟨rfl, fun j s p hs => by simp at hs⟩, RepL.nil_, by simp⟩
  | f :: fs, off, k, shs, h, hl, hx, hk => by
    simp only [fieldSh] at h
    split at h
    · rename_i hoff
      split at h
      · rename_i s hs
        split at h
        · rename_i hsl
          split at h
          · rename_i r hr
            injection h with h; subst h
            simp only [List.length_append] at hl
            obtain ⟨ps', h1, h2, h3⟩ := trod_fields (cs := cs) ih fs (off + s.length) (k + 1) r hr (by omega) (fun i f' hf => by
              have := hx (i + 1) f' (by simpa using hf)
              rw [show k + (i + 1) = k + 1 + i from by omega] at this; exact this) (by simp only [List.length_cons] at hk; omega)
            have h0 := hx 0 f rfl
            have hk0 : k + 0 < xs.length := by simp only [List.length_cons] at hk; omega
            rw [List.getElem?_eq_getElem hk0] at h0
            obtain ⟨ps, g1, g2, g3⟩ := ih _ _ _ _ hs h0
            rw [hoff, ← hsl] at g2 g3
            have e : cs.drop off = (cs.drop off).take s.length ++ cs.drop (off + s.length) := by
              rw [← List.drop_drop, List.take_append_drop]
            refine ⟨ps ++ ps', g1.append h1, ?_, ?_⟩
            · rw [e]; exact g2.append h2
            · rw [e]
              intro u hu
              rcases List.mem_append.1 hu with hu | hu
              · exact g3 u hu
              · exact h3 u hu
          · cases h
        · cases h
      · cases h
    · cases h
theorem trod_rep (hX : ∀ b, b < w.heap.size → mayLie X γ 1 b) : ∀ (m fuel : Nat) (t : TypeId) (cs : List Value) (x : DataW H × List MemPlace) (shs : List Sh), shp P m t = some shs → DataW.trod enc P w 0 sp held fuel t cs = some x →
    ∃ ps, ShL shs ps ∧ RepL X γ w ps cs ∧ ∀ u ∈ cs, u.oneCell' = true := by
  have one : ∀ (s : Sh) (p : PV) (v : Value), ShR s p → Rep X γ w p v → v.oneCell' = true → ∃ ps, ShL [s] ps ∧ RepL X γ w ps [v] ∧ ∀ u ∈ [v], u.oneCell' = true := fun s p v h1 h2 h3 =>
    ⟨[p], ⟨rfl, fun j s' p' hs hp => by
      cases j with
      | zero => simp only [List.getElem?_cons_zero, Option.some.injEq] at hs hp; subst hs; subst hp; exact h1
      | succ j => simp at hs⟩, RepL.cons_ h2 RepL.nil_, by simpa using h3⟩
  intro m
  induction m with
  | zero => intro fuel t cs x shs h; simp [shp] at h
  | succ m ih =>
    intro fuel t cs x shs h hd
    simp only [shp] at h
    split at h
    · rename_i ht
      injection h with h; subst h
      obtain ⟨b, rfl, _⟩ := DataW.trod_bool ht hd
      exact one _ _ _ (.bool b) (.bool b) rfl
    · rename_i k ht
      injection h with h; subst h
      obtain ⟨n, rfl, _, hw⟩ := DataW.trod_int ht hd
      simp only [Lit.wf, Bool.and_eq_true, decide_eq_true_eq] at hw
      exact one _ _ _ (.int k n hw) (.int k n) rfl
    · rename_i ht
      injection h with h; subst h
      obtain ⟨s, rfl, _, hw⟩ := DataW.trod_string ht hd
      have e : s = ⟨s.data.toList.toArray⟩ := by cases s; simp
      refine one _ (.str s.data.toList) _ (.str _ (by rw [Array.length_toList]; exact hw)) ?_ rfl
      have := Rep.str (X := X) (γ := γ) (w := w) s.data.toList
      rwa [← e] at this
    · rename_i e ht
      split at h
      · rename_i s hs
        split at h
        · rename_i hc
          obtain ⟨hsl, hpos⟩ := hc
          injection h with h; subst h
          rcases DataW.trod_slice ht hd with ⟨rfl, _⟩ | ⟨a, len, cap, elems, rest, n, hf, rfl, _, hb, hlc, hcm, hel, helem, _, _⟩
          · refine one _ (.sl 1 s.length 0 (fun _ => [])) _ (.sl s 0 _ (Nat.zero_le _) (fun i hi => by omega) (fun i j s p hi => by omega)) ?_ rfl
            exact .sl 1 _ 0 _ none 0 (fun _ => undef) (Nat.le_refl _) (fun i hi => by omega) (fun i hi => by omega) (fun hi => by omega) (fun i j c hi => by omega)
          · have hex : ∀ i, ∃ ps, i < len → ShL s ps ∧ ∃ cs', w.cells? 0 (a.add (i * P.cellsOf e)) (P.cellsOf e) = some cs' ∧ RepL X γ w ps cs' := fun i => by
              by_cases hi : i < len
              · have h1 := helem i hi
                rw [List.getElem?_eq_getElem (by omega)] at h1
                obtain ⟨cs', h2, h3⟩ := Option.bind_eq_some_iff.1 h1
                obtain ⟨ps, g1, g2, _⟩ := ih _ _ _ _ _ hs h3
                exact ⟨ps, fun _ => ⟨g1, cs', h2, g2⟩⟩
              · exact ⟨[], fun h => absurd h hi⟩
            let f : Nat → List PV := fun i => Classical.choose (hex i)
            have hf' : ∀ i, i < len → ShL s (f i) ∧ ∃ cs', w.cells? 0 (a.add (i * P.cellsOf e)) (P.cellsOf e) = some cs' ∧ RepL X γ w (f i) cs' := fun i => Classical.choose_spec (hex i)
            have hcell : ∀ i j, i < len → j < s.length → ∃ u p, w.cell? (a.add (i * s.length + j)) = some u ∧ (f i)[j]? = some p ∧ Rep X γ w p u := fun i j hi hj => by
              obtain ⟨g1, cs', g2, g3⟩ := hf' i hi
              obtain ⟨_, k2, k3⟩ := World.cells?_some g2
              have hj' : j < cs'.length := by rw [k2, ← hsl]; exact hj
              have hk := k3 j (by rw [← hsl]; exact hj)
              rw [List.getElem?_eq_getElem hj', add_add_, ← hsl] at hk
              have hpj : j < (f i).length := by rw [g1.1]; exact hj
              exact ⟨_, _, hk, List.getElem?_eq_getElem hpj, g3.2 j _ _ (List.getElem?_eq_getElem hpj) (List.getElem?_eq_getElem hj')⟩
            refine one _ (.sl 1 s.length len f) _ (.sl s len f (Nat.le_trans hlc hcm) (fun i hi => (hf' i hi).1.1) (fun i j s' p hi hs' hp => (hf' i hi).1.2 j s' p hs' hp)) ?_ rfl
            have hsh : ∀ i, i < len → ∀ c ∈ f i, ∃ s', ShR s' c := fun i hi c hc => by
              obtain ⟨j, hj⟩ := List.getElem?_of_mem hc
              have hlt := (List.getElem?_eq_some_iff.1 hj).1
              have hlt2 : j < s.length := by rw [← (hf' i hi).1.1]; exact hlt
              exact ⟨_, (hf' i hi).1.2 j _ _ (List.getElem?_eq_getElem hlt2) hj⟩
            refine .sl 1 s.length len f (some a) cap (fun k => (w.cell? (a.add k)).getD undef) hlc (fun i hi => (hf' i hi).1.1) (fun i hi c hc => by obtain ⟨s', h⟩ := hsh i hi c hc; exact h.flat) (fun hn => ?_) (fun i j c hi hc => ?_)
            · obtain ⟨u, p, h1, _, _⟩ := hcell 0 0 hn hpos
              have hblk : a.block < w.heap.size := by
                obtain ⟨_, cs', g2, _⟩ := hf' 0 hn
                have := World.cells?_block g2 (by omega)
                have e : (a.add (0 * P.cellsOf e)).block = a.block := by unfold Addr.add; split <;> rfl
                rwa [e] at this
              refine ⟨a, rfl, hX _ hblk, hblk, fun k hk => ?_⟩
              have hk1 : k / s.length < len := by rw [Nat.div_lt_iff_lt_mul hpos]; exact hk
              obtain ⟨u, p, h1, _, _⟩ := hcell (k / s.length) (k % s.length) hk1 (Nat.mod_lt _ hpos)
              rw [Nat.mul_comm, Nat.div_add_mod] at h1
              exact cellT_pos (by decide) (by rw [h1]; rfl)
            · have hj : j < s.length := by rw [← (hf' i hi).1.1]; exact (List.getElem?_eq_some_iff.1 hc).1
              obtain ⟨u, p, h1, h2, h3⟩ := hcell i j hi hj
              rw [h2] at hc; injection hc with hc; subst hc
              obtain ⟨s', h⟩ := hsh i hi p (List.mem_of_getElem? h2)
              rw [h.mark1, h1]; exact h3
        · cases h
      · cases h
    · rename_i fs ht
      split at h
      · rename_i s hs
        split at h
        · rename_i hsl
          injection h with h; subst h
          obtain ⟨xs, n, rfl, _, hcl, hxl, hx⟩ := DataW.trod_struct ht hd
          obtain ⟨ps, h1, h2, h3⟩ := trod_fields (cs := cs) (xs := xs) (ih n) fs.toList 0 0 s hs (by omega) (fun i f hf => by rw [Nat.zero_add]; exact hx i f (by simpa using hf)) (by simpa using hxl.symm)
          exact ⟨ps, h1, by simpa using h2, by simpa using h3⟩
        · cases h
      · cases h
    · cases h
end
end Pv
end Go.Proofs.YtdcgnfkkklbckaaGreatDoor
/- A LAW's ROW, FROM ITS FUNCTION's CONTRACT. -/
set_option linter.unusedSimpArgs false
set_option linter.unusedVariables false
namespace Go.Proofs.YtdcgnfkkklbckaaGreatDoor
namespace Pv
open Go.RowKit Go.ChangeShapes
section
variable {H : Type} {enc : TypeId × Value → H} {P : Program} {w : World} {sp : Nat → Bool} {held : Bool}
def cx0 (w : World) : Cx := ⟨w.heap.size, fun b => b < w.heap.size, fun _ => False, 0, fun _ => none, []⟩
def gh0 : Gh := fun _ => none
theorem gh0_own (b : Nat) : ¬ gh0.own b := by rintro ⟨r, ge, h, _⟩; cases h
theorem lie0 (b : Nat) (hb : b < w.heap.size) : mayLie (cx0 w) gh0 1 b := ⟨gh0_own b, .inr (.inl ⟨Nat.le_refl _, hb⟩)⟩
def GlobOK (w : World) : Prop := ∀ b p, glob b = some p → ∃ o, w.heap[b]? = some o ∧ p o
theorem globOK_none (h : ∀ b, glob b = none) : GlobOK w := fun b p hb => by rw [h b] at hb; cases hb
theorem st0 (hgl : GlobOK w) : RepSt (cx0 w) gh0 w (fun r => ([] : List SE)[r]?) :=
  ⟨fun r => by simp [gh0], fun r ge e h => (by cases h), fun r r' ge ge' b h => (by cases h), fun b hb => absurd hb (gh0_own b), fun b hb => absurd hb (gh0_own b), fun b p hb => ⟨hgl b p hb, gh0_own b, by
    obtain ⟨o, h1, _⟩ := hgl b p hb
    exact (Array.getElem?_eq_some_iff.1 h1).1⟩⟩
theorem law_calls (hgl : GlobOK w) {f : FuncId} {args : List PV} {vals : List Value} (h : PureCall P f args [] ⟨.bool true, [], []⟩) (hr : RepL (cx0 w) gh0 w args vals) :
    Calls P f vals.toArray w fun e w' => e = .returned (.bool true) ∧ Below w.heap.size w w' := by
  have hst : RepSt ⟨w.heap.size, (cx0 w).as, (cx0 w).ls, ([] : List SE).length, gh0, []⟩ gh0 w (fun r => ([] : List SE)[r]?) :=
    st0 (w := w) hgl
  refine (h.2 w gh0 (cx0 w).as (cx0 w).ls vals hst (fun b hb => hb.elim (fun h => h) (fun h => h.elim)) hr).mono ?_
  rintro e w' ⟨v, γ', rfl, hv, _, hk, _, _⟩
  cases hv.bool_inv
  exact ⟨rfl, hk.os, hk.tape, hk.output, hk.size, fun k hk' => hk.block k hk' (gh0_own k)⟩
theorem arg_one {m : Nat} {t : TypeId} {s : Sh} {v : Value} {d : DataW H} {ps : List MemPlace} (hs : shp P m t = some [s]) (hv : v.oneCell' = true) (h : DataW.Trod enc P w 0 sp held t v d ps) : ∃ p, ShR s p ∧ Rep (cx0 w) gh0 w p v := by
  obtain ⟨fuel, hf⟩ := h
  rw [cells_one hv] at hf
  obtain ⟨ps, h1, h2, _⟩ := trod_rep (X := cx0 w) (γ := gh0) lie0 _ _ _ _ _ _ hs hf
  obtain ⟨h1, h1'⟩ := h1
  match ps, h1 with
  | [p], _ =>
    obtain ⟨u, us, hu, hr, _⟩ := h2.cons_inv
    simp only [List.cons.injEq] at hu
    exact ⟨p, h1' 0 s p rfl rfl, by rw [hu.1]; exact hr⟩
theorem arg_agg {m : Nat} {t : TypeId} {shs : List Sh} {cs : Array Value} {d : DataW H} {ps : List MemPlace} (hs : shp P m t = some shs) (h : DataW.Trod enc P w 0 sp held t (.agg cs) d ps) : ∃ qs, ShL shs qs ∧ Rep (cx0 w) gh0 w (.agg qs) (.agg cs) := by
  obtain ⟨fuel, hf⟩ := h
  obtain ⟨qs, h1, h2, h3⟩ := trod_rep (X := cx0 w) (γ := gh0) lie0 _ _ _ _ _ _ hs hf
  have := Rep.agg qs cs.toList h2.1 h3 h2.2
  exact ⟨qs, h1, by simpa using this⟩
theorem Rep.le0 (hgl : GlobOK w) {p q : PV} {v : Value} (h : Rep (cx0 w) gh0 w p v) (hl : PLe (fun r => ([] : List SE)[r]?) (fun _ => true) p q) : Rep (cx0 w) gh0 w q v :=
  h.le (γk := gh0) (st0 hgl) (fun r ge b τ e z n f hr => (by cases hr)) (fun r ge hr _ => hr) (fun r ge hr => ⟨hr, rfl⟩) q hl
theorem sh_list (hgl : GlobOK w) {α : Type} [Inhabited α] (e : α → List PV) (Q : α → Prop) {shs : List Sh} (hdec : ∀ ps, ShL shs ps → ∃ x, ps = e x ∧ Q x) {p : PV} (h : ShR (.sl shs) p) {v : Value} (hr : Rep (cx0 w) gh0 w p v) :
    ∃ l : List α, Rep (cx0 w) gh0 w (.sl 1 shs.length l.length (fl e l)) v ∧ l.length ≤ maxLen ∧ ∀ x ∈ l, Q x := by
  cases h with
  | sl _ n f hn h1 h2 =>
    have hx : ∀ i, ∃ x, i < n → f i = e x ∧ Q x := fun i => by
      by_cases hi : i < n
      · obtain ⟨x, hx⟩ := hdec (f i) ⟨h1 i hi, fun j s p hs hp => h2 i j s p hi hs hp⟩
        exact ⟨x, fun _ => hx⟩
      · exact ⟨default, fun h => absurd h hi⟩
    let g : Nat → α := fun i => Classical.choose (hx i)
    have hg : ∀ i, i < n → f i = e (g i) ∧ Q (g i) := fun i => Classical.choose_spec (hx i)
    refine ⟨(List.range n).map g, hr.le0 hgl ?_, by simpa using hn, fun x hm => ?_⟩
    · refine ⟨Nat.le_refl _, rfl, by simp, fun i hi => ?_⟩
      rw [(hg i hi).1]
      simp [fl, List.getD_eq_getElem?_getD, hi]
    · obtain ⟨i, hi, rfl⟩ := List.mem_map.1 hm
      exact (hg i (List.mem_range.1 hi)).2
theorem sh_int {k : IntKind} {p : PV} (h : ShR (.int k) p) : ∃ n, p = .int k n ∧ inR k n := by cases h with | int _ n h => exact ⟨n, rfl, h⟩
theorem sh_bool {p : PV} (h : ShR .bool p) : ∃ b, p = .bool b := by cases h with | bool b => exact ⟨b, rfl⟩
theorem sh_str {p : PV} (h : ShR .str p) : ∃ s, p = .str s ∧ s.length ≤ maxLen := by cases h with | str s h => exact ⟨s, rfl, h⟩
theorem shl_cons {s : Sh} {ss : List Sh} {ps : List PV} (h : ShL (s :: ss) ps) : ∃ p qs, ps = p :: qs ∧ ShR s p ∧ ShL ss qs := by
  obtain ⟨h1, h2⟩ := h
  match ps, h1 with
  | p :: qs, h1 => exact ⟨p, qs, rfl, h2 0 s p rfl rfl, by simpa using h1, fun j s' p' hs hp => h2 (j + 1) s' p' (by simpa using hs) (by simpa using hp)⟩
theorem shl_nil {ps : List PV} (h : ShL [] ps) : ps = [] := List.eq_nil_of_length_eq_zero h.1
end
end Pv
end Go.Proofs.YtdcgnfkkklbckaaGreatDoor
/- A LAW's ROW, FROM ITS FUNCTION's CONTRACT: how long slices are that came in. -/
set_option linter.unusedSimpArgs false
set_option linter.unusedVariables false
namespace Go.Proofs.YtdcgnfkkklbckaaGreatDoor
namespace Pv
open Go.RowKit Go.ChangeShapes
section
variable {H : Type} {enc : TypeId × Value → H} {P : Program} {w : World} {sp : Nat → Bool} {held : Bool}
theorem sized_len {ts : List TypeId} {ds : List (DataW H)} (hz : (DataW.weightsEach P ts ds).all (· ≤ reachBytes) = true) {j : Nat} {t e : TypeId} {d : DataW H} {ps : List MemPlace} {a : Option Addr} {len cap : Nat}
    (ht : ts[j]? = some t) (hd : ds[j]? = some d) (hu : P.underlying t = some (.slice e)) (h : DataW.Trod enc P w 0 sp held t (.slice a len cap) d ps)
    (hb : 0 < P.bytesOf e) {X : Cx} {γ : Gh} {τ z n : Nat} {f : Nat → List PV} (hr : Rep X γ w (.sl τ z n f) (.slice a len cap)) : n ≤ 140737488351232 := by
  have hn : n = len := by cases hr; rfl
  subst hn
  obtain ⟨fuel, hf⟩ := h
  rcases DataW.trod_slice hu hf with ⟨h1, _⟩ | ⟨a', len', cap', elems, rest, m, _, h1, h2, _, _, _, h3, _⟩
  · have h1' : Value.slice a n cap = .slice none 0 0 := by simpa [Value.cells] using h1
    injection h1' with _ h4 _
    omega
  · have h1' : Value.slice a n cap = .slice (some a') len' cap' := by simpa [Value.cells] using h1
    injection h1' with _ h4 _
    injection h2 with h5 _
    subst h5
    have := sized_slice hz ht hd hu
    simp only [List.length_map] at this
    have h6 : n * 1 ≤ (elems.length + rest.length) * P.bytesOf e := Nat.mul_le_mul (by omega) hb
    have h7 : reachBytes = 140737488351232 := rfl
    omega
end
end Pv
end Go.Proofs.YtdcgnfkkklbckaaGreatDoor
set_option linter.unusedSimpArgs false
set_option linter.unusedVariables false
namespace Go.Proofs.YtdcgnfkkklbckaaGreatDoor
namespace Pv
open Go.RowKit Go.ChangeShapes
section
variable {H : Type} {enc : TypeId × Value → H} {P : Program} {w : World} {sp : Nat → Bool} {held : Bool}
def eSl {α : Type} [Inhabited α] (k : Nat) (e : α → List PV) (m : List α) : List PV := [.sl 1 k m.length (fl e m)]
theorem sh_list2 (hgl : GlobOK w) {α : Type} [Inhabited α] (e : α → List PV) (Q : α → Prop) {shs : List Sh} (hdec : ∀ ps, ShL shs ps → ∃ x, ps = e x ∧ Q x) {p : PV} (h : ShR (.sl [.sl shs]) p) {v : Value} (hr : Rep (cx0 w) gh0 w p v) :
    ∃ G : List (List α), Rep (cx0 w) gh0 w (.sl 1 1 G.length (fl (eSl shs.length e) G)) v ∧ G.length ≤ maxLen ∧ ∀ m ∈ G, ∀ x ∈ m, Q x := by
  cases h with
  | sl _ n f hn h1 h2 =>
    have hx : ∀ i, ∃ m : List α, i < n → ∃ f', f i = [.sl 1 shs.length m.length f'] ∧ RowEq m.length f' (fl e m) ∧ ∀ x ∈ m, Q x := fun i => by
      by_cases hi : i < n
      · have hl := h1 i hi
        match hf : f i, hl with
        | [c], _ =>
          have hc := h2 i 0 (.sl shs) c hi rfl (by rw [hf]; rfl)
          cases hc with
          | sl _ n' f' hn' g1 g2 =>
            have hy : ∀ i, ∃ x, i < n' → f' i = e x ∧ Q x := fun j => by
              by_cases hj : j < n'
              · obtain ⟨x, hx⟩ := hdec (f' j) ⟨g1 j hj, fun k s p hs hp => g2 j k s p hj hs hp⟩
                exact ⟨x, fun _ => hx⟩
              · exact ⟨default, fun h => absurd h hj⟩
            refine ⟨(List.range n').map fun j => Classical.choose (hy j), fun _ => ⟨f', by simp, fun j hj => ?_, fun x hm => ?_⟩⟩
            · simp only [List.length_map, List.length_range] at hj
              rw [(Classical.choose_spec (hy j) hj).1]
              simp [fl, List.getD_eq_getElem?_getD, hj]
            · obtain ⟨j, hj, rfl⟩ := List.mem_map.1 hm
              exact (Classical.choose_spec (hy j) (List.mem_range.1 hj)).2
      · exact ⟨[], fun h => absurd h hi⟩
    let g : Nat → List α := fun i => Classical.choose (hx i)
    have hg : ∀ i, i < n → ∃ f', f i = [.sl 1 shs.length (g i).length f'] ∧ RowEq (g i).length f' (fl e (g i)) ∧ ∀ x ∈ g i, Q x := fun i => Classical.choose_spec (hx i)
    refine ⟨(List.range n).map g, ?_, by simpa using hn, fun m hm => ?_⟩
    · have hget : ∀ i, i < n → fl (eSl shs.length e) ((List.range n).map g) i = [.sl 1 shs.length (g i).length (fl e (g i))] := fun i hi => by
        simp [fl, eSl, List.getD_eq_getElem?_getD, hi]
      have hlen : ((List.range n).map g).length = n := by simp
      cases hr with
      | sl _ _ _ _ ad cap vs hcap hz hf hb hh =>
        rw [hlen]
        refine .sl 1 1 n _ ad cap vs hcap (fun i hi => by rw [hget i hi]; rfl) (fun i hi c hc => ?_) hb (fun i j c hi hc => ?_)
        · rw [hget i hi] at hc
          rw [List.mem_singleton.1 hc]; rfl
        · rw [hget i hi] at hc
          obtain ⟨f', e1, e2, _⟩ := hg i hi
          cases j with
          | zero =>
            simp only [List.getElem?_cons_zero, Option.some.injEq] at hc
            subst hc
            have := hh i 0 _ hi (by rw [e1]; rfl)
            exact this.le0 hgl ⟨Nat.le_refl _, rfl, rfl, e2⟩
          | succ j => simp at hc
    · obtain ⟨i, hi, rfl⟩ := List.mem_map.1 hm
      obtain ⟨_, _, _, h3⟩ := hg i (List.mem_range.1 hi)
      exact h3
theorem weightsAll_mem {e : TypeId} : ∀ {l : List (DataW H)} {i : Nat} {d : DataW H}, l[i]? = some d → ∀ n ∈ d.weights P e, n ∈ DataW.weightsAll P e l
  | [], i, d, h, n, hn => by simp at h
  | x :: l, 0, d, h, n, hn => by
    simp only [List.getElem?_cons_zero, Option.some.injEq] at h
    subst h
    simp only [DataW.weightsAll, List.mem_append]; exact .inl hn
  | x :: l, i + 1, d, h, n, hn => by
    simp only [DataW.weightsAll, List.mem_append]; exact .inr (weightsAll_mem (by simpa using h) n hn)
theorem sized_len2 {ts : List TypeId} {ds : List (DataW H)} (hz : (DataW.weightsEach P ts ds).all (· ≤ reachBytes) = true) {j : Nat} {t e e2 : TypeId} {d : DataW H} {ps : List MemPlace} {a : Option Addr} {len cap : Nat}
    (ht : ts[j]? = some t) (hd : ds[j]? = some d) (hu : P.underlying t = some (.slice e)) (hu2 : P.underlying e = some (.slice e2)) (hce : P.cellsOf e = 1) (h : DataW.Trod enc P w 0 sp held t (.slice a len cap) d ps)
    {X : Cx} {γ : Gh} {τ n : Nat} {F : Nat → List PV} (hr : Rep X γ w (.sl τ 1 n F) (.slice a len cap)) {i τ' z' N : Nat} {f' : Nat → List PV} (hi : i < n) (hF : F i = [.sl τ' z' N f']) : N * P.bytesOf e2 ≤ 140737488351232 := by
  have hreach : reachBytes = 140737488351232 := rfl
  cases hr with
  | sl _ _ _ _ _ _ vs hcap hz' hf hb hh =>
  obtain ⟨a', rfl, _, _, hcell⟩ := hb (by omega)
  obtain ⟨fuel, hfu⟩ := h
  rcases DataW.trod_slice hu hfu with ⟨h1, _⟩ | ⟨a'', len', cap', elems, rest, m, _, h1, h2, _, _, _, h3, h4, _⟩
  · simp [Value.cells] at h1
  · have h1' : Value.slice (some a') len cap = .slice (some a'') len' cap' := by simpa [Value.cells] using h1
    injection h1' with h5 h6 h7
    injection h5 with h5
    subst h5; subst h6
    injection h2 with h8 _
    subst h8
    have h9 := h4 i hi
    rw [List.getElem?_eq_getElem (by omega), hce, Nat.mul_one] at h9
    obtain ⟨cs', g1, g2⟩ := Option.bind_eq_some_iff.1 h9
    obtain ⟨_, k2, k3⟩ := World.cells?_some g1
    have k4 := k3 0 (by omega)
    have hv := cellT_cell (hcell i (by omega))
    rw [add_add_, Nat.add_zero, hv] at k4
    have hcs : cs' = [vs i] := by
      match cs', k2, k4 with
      | [x], _, k4 => simp only [List.getElem?_cons_zero, Option.some.injEq] at k4; rw [k4]
    have hrep := hh i 0 _ hi (by rw [hF]; rfl)
    rw [Nat.mul_one, Nat.add_zero] at hrep
    simp only [PV.mark] at hrep
    subst hcs
    generalize vs i = u at hrep g2
    cases hrep with
    | sl _ _ _ _ ad cap2 vs2 _ _ _ _ _ =>
    rcases DataW.trod_slice hu2 g2 with ⟨q1, _⟩ | ⟨b, len2, cap3, elems2, rest2, m2, _, q1, q2, _, _, _, q3, _⟩
    · have q1' : Value.slice ad N cap2 = .slice none 0 0 := by simpa using q1
      injection q1' with _ q5 _
      subst q5; rw [Nat.zero_mul]; exact Nat.zero_le _
    · have q1' : Value.slice ad N cap2 = .slice (some b) len2 cap3 := by simpa using q1
      injection q1' with _ q5 _
      subst q5
      have hmem : (elems2.map (·.1)).length * P.bytesOf e2 ≤ ((elems2.map (·.1)).length + (rest2.map (·.1)).length) * P.bytesOf e2 := Nat.mul_le_mul_right _ (by omega)
      have he : (elems.map (·.1))[i]? = some (DataW.slice (elems2.map (·.1)) (rest2.map (·.1))) := by
        rw [List.getElem?_map, List.getElem?_eq_getElem (by omega), Option.map_some, q2]
      have hw1 : ((elems2.map (·.1)).length + (rest2.map (·.1)).length) * P.bytesOf e2 ∈ DataW.weightsEach P ts ds := by
        refine DataW.weights_mem_each ht hd _ ?_
        simp only [DataW.weights, hu, List.mem_cons, List.mem_append]
        refine .inr (.inl (weightsAll_mem he _ ?_))
        simp [DataW.weights, hu2]
      have := List.all_eq_true.1 hz _ hw1
      have h10 : ((elems2.map (·.1)).length + (rest2.map (·.1)).length) * P.bytesOf e2 ≤ reachBytes := by simpa using this
      have h11 : (elems2.map (·.1)).length = N := by rw [List.length_map]; exact q3
      rw [h11] at hmem h10
      omega
end
end Pv
end Go.Proofs.YtdcgnfkkklbckaaGreatDoor
