/- LOADS AND STORES THROUGH POINTERS; ALL OPERATIONS BUT CALLS TOGETHER. -/
import Derived.Test.YtogoplhikmmggaaPv9
set_option linter.unusedSimpArgs false
set_option linter.unusedVariables false
namespace Go.Proofs.Ytogoplhikmmggaa
namespace Pv
open Go.RowKit

section
variable {P : Program} {X : Cx} {γ γ' : Gh} {w w' : World} {st st' : Nat → Option SE}

theorem cell_plain {b : Nat} {cs : Array Value} {T : TypeId} (hh : w.heap[b]? = some (.cells cs T (0, 0))) (o k : Nat) : w.cell? ((⟨b, o, none⟩ : Addr).add k) = cs[o + k]? := by
  rw [add_plain]; exact cell_of_row w b _ cs T _ hh

theorem ld_box_sound {t : TypeId} {g : Bool} {r i j : Nat} {cells : List PV} {u : Value} {p : PV} (hst : RepSt X γ w st) (hg : isAggO P t = some g) (hu : Rep X γ w (.pt r i j) u) (he : st r = some (.box cells)) (hi : i = 0)
    (hp : asV (P.cellsOf t) g ((cells.drop j).take (P.cellsOf t)) = some p) : ∃ v, (Instr.loadAt t u).run P w = .ok v w ∧ Rep X γ w p v := by
  subst hi
  obtain ⟨ge, b, hge, hb, rfl⟩ := pt_inv hu
  obtain ⟨b', T, cur, hb', hh, h1, hr⟩ := hst.at_ r ge _ hge he
  have hbb : b' = b := by rw [hb'] at hb; injection hb
  subst hbb
  have e0 : 0 * ge.z + j = j := by omega
  rw [e0]
  obtain ⟨hl, hrep⟩ := asV_rep ((hr.drop j).take (P.cellsOf t)) (fun x hx => h1 x (List.mem_of_mem_drop (List.mem_of_mem_take hx))) hp
  refine ⟨_, run_loadAt_ hg hl (fun h0 => by subst h0; rw [hl]; exact (asV_false hp).1) (fun k x hx => ?_), hrep⟩
  rw [cell_plain hh]
  rw [List.getElem?_take] at hx
  split at hx
  · rw [List.getElem?_drop] at hx; simpa using hx
  · cases hx

theorem ld_row_sound {t : TypeId} {g : Bool} {r i j τ e z m : Nat} {f : Nat → List PV} {u : Value} {p : PV} (hst : RepSt X γ w st) (hg : isAggO P t = some g) (hu : Rep X γ w (.pt r i j) u) (he : st r = some (.row τ e z m f)) (hi : i < m)
    (hp : asV (P.cellsOf t) g ((((f i).drop j).take (P.cellsOf t)).map (PV.mark τ)) = some p) : ∃ v, (Instr.loadAt t u).run P w = .ok v w ∧ Rep X γ w p v := by
  obtain ⟨ge, b, hge, hb, rfl⟩ := pt_inv hu
  obtain ⟨vs, hz, hbl, _, ho, hr⟩ := (hst.at_ r ge _ hge he).rows
  obtain ⟨ad, cap, hv, hnc, _, hor⟩ := own_slice ho
  have hlen : (((f i).drop j).take (P.cellsOf t)).length = P.cellsOf t := by
    unfold asV at hp; split at hp
    · rename_i h0; rw [List.length_map] at h0; exact h0
    · cases hp
  have hjz : j + P.cellsOf t ≤ z ∨ P.cellsOf t = 0 := by
    rw [List.length_take, List.length_drop, hr.hz i hi] at hlen; omega
  have hR : RepL X γ w ((((f i).drop j).take (P.cellsOf t)).map (PV.mark τ)) ((vs.drop (i * z + j)).take (P.cellsOf t)) := by
    have hlv : ((vs.drop (i * z + j)).take (P.cellsOf t)).length = P.cellsOf t := by
      rw [List.length_take, List.length_drop, hr.len]
      have : (i + 1) * z ≤ m * z := Nat.mul_le_mul_right z hi
      rw [Nat.add_mul] at this
      omega
    refine ⟨by rw [hlv, List.length_map, hlen], fun k c x hc hx => ?_⟩
    rw [List.getElem?_map] at hc
    obtain ⟨c0, h0, rfl⟩ := Option.map_eq_some_iff.1 hc
    rw [List.getElem?_take] at h0 hx
    split at h0
    · rename_i hk
      rw [if_pos hk] at hx
      rw [List.getElem?_drop] at h0 hx
      exact hr.rep i (j + k) c0 x hi h0 (by rw [← Nat.add_assoc]; exact hx)
    · cases h0
  obtain ⟨hl, hrep⟩ := asV_rep hR (fun x hx => hr.one x (List.mem_of_mem_drop (List.mem_of_mem_take hx))) hp
  refine ⟨_, run_loadAt_ hg hl (fun h0 => by subst h0; rw [hl]; exact (asV_false hp).1) (fun k x hx => ?_), hrep⟩
  rw [List.getElem?_take] at hx
  split at hx
  · rw [List.getElem?_drop] at hx
    rcases hor with h0 | ⟨g', rfl, hlt, hb'⟩
    · omega
    · have hbg : b = g' := by rw [hbl, hb'] at hb; injection hb with hb; exact hb.symm
      subst hbg
      have := own_cells ho hv rfl _ x hx
      rw [add_plain] at this ⊢
      rw [hz, ← this]; congr 2; omega
  · cases hx

theorem seg_get (l new : List Value) (o k : Nat) (h : o + new.length ≤ l.length) :
    (l.take o ++ new ++ l.drop (o + new.length))[k]? = if k < o then l[k]? else if k < o + new.length then new[k - o]? else l[k]? := by
  have ho : (l.take o).length = o := by simp; omega
  rw [List.append_assoc]
  by_cases h1 : k < o
  · rw [if_pos h1, List.getElem?_append_left (by omega), List.getElem?_take, if_pos h1]
  · rw [if_neg h1, List.getElem?_append_right (by omega), ho]
    by_cases h2 : k < o + new.length
    · rw [if_pos h2, List.getElem?_append_left (by omega)]
    · rw [if_neg h2, List.getElem?_append_right (by omega), List.getElem?_drop]
      congr 1; omega
theorem seg_take (l new : List Value) (o N : Nat) (h : o + new.length ≤ N) (hN : N ≤ l.length) :
    (l.take o ++ new ++ l.drop (o + new.length)).take N = (l.take N).take o ++ new ++ (l.take N).drop (o + new.length) := by
  apply List.ext_getElem?
  intro k
  rw [List.getElem?_take, seg_get l new o k (by omega), seg_get (l.take N) new o k (by simp; omega), List.getElem?_take]
  by_cases hk : k < N
  · simp [hk]
  · rw [if_neg hk, if_neg (by omega), if_neg (by omega), if_neg hk]
theorem setAt_get (cs : List PV) (o : Nat) (new : List PV) (k : Nat) (h : o + new.length ≤ cs.length) :
    (setAt cs o new)[k]? = if k < o then cs[k]? else if k < o + new.length then new[k - o]? else cs[k]? := by
  have ho : (cs.take o).length = o := by simp; omega
  unfold setAt
  by_cases h1 : k < o
  · rw [if_pos h1, List.getElem?_append_left (by omega), List.getElem?_take, if_pos h1]
  · rw [if_neg h1, List.getElem?_append_right (by omega), ho]
    by_cases h2 : k < o + new.length
    · rw [if_pos h2, List.getElem?_append_left (by omega)]
    · rw [if_neg h2, List.getElem?_append_right (by omega), List.getElem?_drop]
      congr 1; omega

theorem st_row_sound {t : TypeId} {r i j τ e z m : Nat} {f : Nat → List PV} {p : PV} {u v : Value} (hst : RepSt X γ w st) (hpos : 0 < P.cellsOf t)
    (hu : Rep X γ w (.pt r i j) u) (hv : Rep X γ w p v) (he : st r = some (.row τ e z m f)) (hi : i < m) (hl : p.cells.length = P.cellsOf t) (hj : j + P.cellsOf t ≤ z) (hfl : p.cells.all PV.flat = true)
    (E : Eff) (hEv : E.val = .junk) (hEw : E.wr = [(r, .row (max τ (tauL p.cells)) e z m (fun k => if k = i then setAt (f i) j p.cells else f k))]) (hEn : E.nw = []) (hEk : E.kill = []) (hEr : E.rm = []) (hn : newSt 0 E.kill E.rm E.wr E.nw st = some st') :
    Snd P X γ w st E st' (do Instr.storeAt t u v; pure .skip) := by
  obtain ⟨ge, b, hge, hb, rfl⟩ := pt_inv hu
  obtain ⟨vs, hz, hbl, h1h, ho, hr⟩ := (hst.at_ r ge _ hge he).rows
  have hok : p.okCell = true := by
    cases p <;> simp [PV.okCell, PV.cells, PV.flat] at hfl ⊢
  obtain ⟨hvr, hv1⟩ := hv.cells_ hok
  have hcl : v.cells.toList.length = P.cellsOf t := by rw [hvr.1]; exact hl
  rcases ho.2 with ⟨hnil, hm0⟩ | ⟨g, cap, cur, hh, _, hheap, hnc, hcm, hcs, htake⟩
  · omega
  · have hbg : b = g := by rw [hbl, hh] at hb; simp [Value.ownBlock] at hb; exact hb.symm
    subst hbg
    rw [hz]
    have him : i * z + j + P.cellsOf t ≤ m * z := by
      have : (i + 1) * z ≤ m * z := Nat.mul_le_mul_right z hi
      rw [Nat.add_mul] at this; omega
    have hmc : m * z ≤ cap * z := Nat.mul_le_mul_right z hnc
    have hrun := run_storeAt_ (P := P) (w := w) (off := i * z + j) hpos hheap hcl (by rw [hcs]; omega) hv1
    rw [hEk, hEr, hEw, hEn] at hn
    simp only [newSt_eq, voidS_nil, rmS_nil, wrS, nwS, Option.some.injEq] at hn
    subst hn
    refine ⟨.skip, undef, _, γ, by simp only [Sem.run_bind, hrun, Result.andThen_ok, Sem.run_pure]; rfl, .inr ⟨rfl, rfl⟩, EffOK.write hst hge hb he hEk (setRow_keeps w b _) (fun hm => ?_) hEv (fun l hl' => by cases hl')⟩
    have hvl : v.cells.toList.length = P.cellsOf t := hcl
    have htk : cur.toList.take (m * z) = vs := htake
    have hcl' : m * z ≤ cur.toList.length := by simp [hcs]; exact hmc
    have hnew : ((cur.toList.take (i * z + j) ++ v.cells.toList ++ cur.toList.drop (i * z + j + v.cells.toList.length)).toArray).toList.take (m * z) =
        vs.take (i * z + j) ++ v.cells.toList ++ vs.drop (i * z + j + v.cells.toList.length) := by
      rw [List.toList_toArray, seg_take _ _ _ _ (by omega) hcl', htk]
    have hvsl : vs.length = m * z := hr.len
    have hget : ∀ k, (vs.take (i * z + j) ++ v.cells.toList ++ vs.drop (i * z + j + v.cells.toList.length))[k]? = if k < i * z + j then vs[k]? else if k < i * z + j + P.cellsOf t then v.cells.toList[k - (i * z + j)]? else vs[k]? := fun k => by
      rw [seg_get _ _ _ _ (by omega), hvl]
    have hown' : (w.setRow b (cur.toList.take (i * z + j) ++ v.cells.toList ++ cur.toList.drop (i * z + j + v.cells.toList.length)).toArray).ownsRow 0 e z ge.hdr m (vs.take (i * z + j) ++ v.cells.toList ++ vs.drop (i * z + j + v.cells.toList.length)) := by
      refine ⟨?_, .inr ⟨b, cap, _, hh, Nat.zero_le _, setRow_heap w b _ _ e _ hheap, hnc, hcm, ?_, hnew⟩⟩
      · rw [List.length_append, List.length_append, List.length_take, List.length_drop]; omega
      · have hcsz : cur.toList.length = cap * z := by simpa using hcs
        simp only [List.size_toArray, List.length_append, List.length_take, List.length_drop]
        omega
    have hfi : (f i).length = z := hr.hz i hi
    refine RowsRep.repS ⟨hown'.1, fun x hx => ?_, fun k hk => ?_, fun k hk c hc => ?_, fun k l c x hk hc hx => ?_⟩ hz hbl h1h hown'
    · simp only [List.mem_append] at hx
      rcases hx with (hx | hx) | hx
      · exact hr.one x (List.mem_of_mem_take hx)
      · exact hv1 x hx
      · exact hr.one x (List.mem_of_mem_drop hx)
    · by_cases hki : k = i
      · subst hki; rw [if_pos rfl, setAt_length _ _ _ (by omega)]; exact hfi
      · rw [if_neg hki]; exact hr.hz k hk
    · by_cases hki : k = i
      · rw [if_pos hki] at hc
        unfold setAt at hc
        rcases List.mem_append.1 hc with hc | hc
        · exact hr.hf i hi c (List.mem_of_mem_take hc)
        · rcases List.mem_append.1 hc with hc | hc
          · exact List.all_eq_true.1 hfl c hc
          · exact hr.hf i hi c (List.mem_of_mem_drop hc)
      · rw [if_neg hki] at hc; exact hr.hf k hk c hc
    · rw [hget] at hx
      by_cases hki : k = i
      · subst hki
        rw [if_pos rfl, setAt_get _ _ _ _ (by omega)] at hc
        by_cases h1 : l < j
        · rw [if_pos h1] at hc; rw [if_pos (by omega)] at hx
          exact hm _ _ ((hr.rep k l c x hk hc hx).mark_le (Nat.le_max_left _ _))
        · rw [if_neg h1] at hc; rw [if_neg (by omega)] at hx
          by_cases h2 : l < j + p.cells.length
          · rw [if_pos h2] at hc; rw [if_pos (by omega)] at hx
            have e1 : k * z + l - (k * z + j) = l - j := by omega
            rw [e1] at hx
            exact hm _ _ ((hvr.2 _ c x hc hx).mark_up _ (Nat.le_trans (tauL_le _ c (List.mem_of_getElem? hc)) (Nat.le_max_right _ _)))
          · rw [if_neg h2] at hc; rw [if_neg (by omega)] at hx
            exact hm _ _ ((hr.rep k l c x hk hc hx).mark_le (Nat.le_max_left _ _))
      · rw [if_neg hki] at hc
        have hlz : l < z := by rw [← hr.hz k hk]; exact (List.getElem?_eq_some_iff.1 hc).1
        have hx' : vs[k * z + l]? = some x := by
          rcases Nat.lt_or_ge k i with hlt | hge
          · have : (k + 1) * z ≤ i * z := Nat.mul_le_mul_right z hlt
            rw [Nat.add_mul] at this
            rw [if_pos (by omega)] at hx; exact hx
          · have hgt : i + 1 ≤ k := by omega
            have : (i + 1) * z ≤ k * z := Nat.mul_le_mul_right z hgt
            rw [Nat.add_mul] at this
            rw [if_neg (by omega), if_neg (by omega)] at hx; exact hx
        exact hm _ _ ((hr.rep k l c x hk hc hx').mark_le (Nat.le_max_left _ _))
end
end Pv
end Go.Proofs.Ytogoplhikmmggaa
