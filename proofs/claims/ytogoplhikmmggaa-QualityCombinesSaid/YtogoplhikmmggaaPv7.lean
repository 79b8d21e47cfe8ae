/- EACH OPERATION BUT CALLS IS SOUND. -/
import Derived.Test.YtogoplhikmmggaaPv6
import Derived.Laws.MakeOwn
import Derived.Laws.OwnMore
set_option linter.unusedSimpArgs false
set_option linter.unusedVariables false
namespace Go.Proofs.Ytogoplhikmmggaa
namespace Pv
open Go.RowKit

/-- An operation agrees with an effect. -/
def Snd (P : Program) (X : Cx) (γ : Gh) (w : World) (st : Nat → Option SE) (E : Eff) (st' : Nat → Option SE) (m : Sem Next) : Prop :=
  ∃ nx v w' γ', m.run P w = .ok nx w' ∧ (nx = .value v ∨ (nx = .skip ∧ v = undef)) ∧ EffOK X γ w st E v w' γ' st'

section
variable {P : Program} {X : Cx} {γ : Gh} {w : World} {st st' : Nat → Option SE}

theorem still_st {E : Eff} {d : Nat} (h : E.still) (hn : newSt d E.kill E.rm E.wr E.nw st = some st') : st' = st := by
  rw [h.1, h.2.1, h.2.2.1, h.2.2.2] at hn
  simp only [newSt, Option.some.injEq] at hn; exact hn.symm

theorem Snd.good {E : Eff} {d : Nat} {m : Sem Value} (hst : RepSt X γ w st) (h : Good P X γ w E m) (hn : newSt d E.kill E.rm E.wr E.nw st = some st') :
    Snd P X γ w st E st' (do pure (.value (← m))) := by
  obtain ⟨hE, v, hr, hv⟩ := h
  cases still_st hE hn
  exact ⟨_, v, w, γ, by simp [hr], .inl rfl, EffOK.still hE hst hv⟩
theorem Snd.val {E : Eff} {d : Nat} {v : Value} (hst : RepSt X γ w st) (hE : E.still) (hv : Rep X γ w E.val v) (hn : newSt d E.kill E.rm E.wr E.nw st = some st') :
    Snd P X γ w st E st' (pure (.value v)) := by
  cases still_st hE hn
  exact ⟨_, v, w, γ, rfl, .inl rfl, EffOK.still hE hst hv⟩

/-! ### stores -/
theorem setAt_length (cs : List PV) (off : Nat) (new : List PV) (h : off + new.length ≤ cs.length) : (setAt cs off new).length = cs.length := by
  simp [setAt]; omega

theorem RepL.setAt_ {cs new : List PV} {us vs : List Value} {off : Nat} (h : RepL X γ w cs us) (hn : RepL X γ w new vs) :
    RepL X γ w (setAt cs off new) (us.take off ++ vs ++ us.drop (off + vs.length)) := by
  rw [List.append_assoc]
  refine (h.take off).append (hn.append ?_)
  rw [hn.1]; exact h.drop _

theorem setRow_keeps (w : World) (b : Nat) (cs : Array Value) : Keeps (· = b) w (w.setRow b cs) :=
  ⟨rfl, rfl, rfl, by simp [World.setRow], fun k _ hk => setRow_other w b k cs hk⟩

theorem run_storeAt_ {t : TypeId} {b off : Nat} {T : TypeId} {cur : Array Value} {v : Value} (hz : 0 < P.cellsOf t) (hg : w.heap[b]? = some (.cells cur T (0, 0)))
    (hl : v.cells.toList.length = P.cellsOf t) (hfit : off + P.cellsOf t ≤ cur.size) (h1 : ∀ u ∈ v.cells.toList, u.oneCell' = true) :
    (Instr.storeAt t (.pointer (some ⟨b, off, none⟩)) v).run P w = .ok () (w.setRow b (cur.toList.take off ++ v.cells.toList ++ cur.toList.drop (off + v.cells.toList.length)).toArray) := by
  obtain ⟨i, hi, hs⟩ := info_of_size hz
  have hst := run_storeCells_at P b off T v.cells.toList 0 cur w hg (by rw [hl]; omega) h1
  simp only [Nat.add_zero] at hst
  have hsz : v.cells.size = P.cellsOf t := by rw [← hl]; simp
  simp only [Instr.storeAt, Instr.sureAddr, pure_bind, storeVar, Sem.run_bind, run_sizeOf w hi, Result.andThen_ok, hsz, ne_eq, not_true_eq_false, if_false, hst]

theorem st_box_sound {t : TypeId} {r i j : Nat} {p : PV} {u v : Value} {cells : List PV} (hst : RepSt X γ w st) (hz : 0 < P.cellsOf t)
    (hu : Rep X γ w (.pt r i j) u) (hv : Rep X γ w p v) (he : st r = some (.box cells)) (hi : i = 0) (hl : p.cells.length = P.cellsOf t) (hj : j + P.cellsOf t ≤ cells.length) (hok : p.okCell = true)
    (E : Eff) (hE : E = ⟨.junk, [], [(r, .box (setAt cells j p.cells))], [], [], []⟩) (hn : newSt 0 E.kill E.rm E.wr E.nw st = some st' ) :
    Snd P X γ w st E st' (do Instr.storeAt t u v; pure .skip) := by
  subst hE; subst hi
  obtain ⟨ge, b, hg, hb, rfl⟩ := pt_inv hu
  obtain ⟨b', T, cur, hb', hh, h1, hr⟩ := hst.at_ r ge _ hg he
  have hbb : b' = b := by rw [hb'] at hb; injection hb
  subst hbb
  obtain ⟨hvr, hv1⟩ := hv.cells_ hok
  have hcl : v.cells.toList.length = P.cellsOf t := by rw [hvr.1]; exact hl
  have hcs : cur.size = cells.length := by have := hr.1; simpa using this
  have e0 : 0 * ge.z + j = j := by omega
  rw [e0]
  have hrun := run_storeAt_ (P := P) (w := w) (off := j) hz hh hcl (by rw [hcs]; omega) hv1
  simp only [newSt_eq, voidS_nil, rmS_nil, wrS, nwS, Option.some.injEq] at hn
  subst hn
  refine ⟨.skip, undef, _, γ, by simp only [Sem.run_bind, hrun, Result.andThen_ok, Sem.run_pure]; rfl, .inr ⟨rfl, rfl⟩, EffOK.write hst hg hb he rfl (setRow_keeps w b' _) (fun hm => ?_) rfl (fun l _ => ⟨_, rfl⟩)⟩
  refine ⟨b', T, _, hb, setRow_heap w b' _ _ T _ hh, ?_, ?_⟩
  · intro x hx
    simp only [List.mem_append] at hx
    rcases hx with (hx | hx) | hx
    · exact h1 x (List.mem_of_mem_take hx)
    · exact hv1 x hx
    · exact h1 x (List.mem_of_mem_drop hx)
  · have := (RepL.setAt_ (off := j) hr hvr)
    exact ⟨this.1, fun k c u hc hu => hm _ _ (this.2 k c u hc hu)⟩

/-! ### new variables -/
theorem alloc_keeps (w : World) (o : Obj) : Keeps (fun _ => False) w (w.alloc o) := Keeps.alloc _ w o

theorem new_box {cells : List PV} {us : List Value} {T : TypeId} {d : Nat} (hst : RepSt X γ w st) (hX : ∀ b, X.as b ∨ X.ls b → b < w.heap.size) (hr : RepL X γ w cells us) (h1 : ∀ u ∈ us, u.oneCell' = true)
    (E : Eff) (hE : E = ⟨.pt d 0 0, [], [], [.box cells], [], []⟩) (hn : newSt d E.kill E.rm E.wr E.nw st = some st') (m : Sem Value)
    (hm : m.run P w = .ok (.pointer (some ⟨w.heap.size, 0, none⟩)) (w.alloc (.cells us.toArray T))) : Snd P X γ w st E st' (do pure (.value (← m))) := by
  subst hE
  simp only [newSt_eq, voidS_nil, rmS_nil, wrS, nwS] at hn
  cases hd : st d with
  | some _ => rw [hd] at hn; cases hn
  | none =>
    rw [hd] at hn; injection hn with hn; subst hn
    have hpt : ∀ w', Rep X (upd γ d ⟨some w.heap.size, undef, 0⟩) w' (.pt d 0 0) (.pointer (some ⟨w.heap.size, 0, none⟩)) := fun w' => by
      have := Rep.pt (X := X) (γ := upd γ d ⟨some w.heap.size, undef, 0⟩) (w := w') d 0 0 _ _ (upd_same _ _ _) rfl
      simpa using this
    refine ⟨_, _, _, _, by simp [hm]; rfl, .inl rfl, EffOK.add (ge := ⟨some w.heap.size, undef, 0⟩) hst hX hd rfl (alloc_keeps w _) (fun b hb => ?_) (fun hmono => ?_) (fun _ => hpt _)⟩
    · injection hb with hb; subst hb; exact ⟨Nat.le_refl _, by simp⟩
    · exact ⟨w.heap.size, T, us.toArray, rfl, heap_alloc_new w _, by simpa using h1, by simpa using hr.1, fun k c u hc hu => hmono _ _ (hr.2 k c u hc (by simpa using hu))⟩

theorem sameCells_rep : ∀ {cs : List PV} {vs : List Value}, sameCells cs vs = true → RepL X γ w cs vs ∧ ∀ u ∈ vs, u.oneCell' = true := by
  intro cs
  induction cs with
  | nil => intro vs h; cases vs with
    | nil => exact ⟨RepL.nil_, by simp⟩
    | cons _ _ => simp [sameCells] at h
  | cons c cs ih =>
    intro vs h
    unfold sameCells at h
    split at h
    · rename_i e; cases e
    · rename_i ps vs' e; injection e with e1 e2; subst e1; subst e2
      obtain ⟨h1, h2⟩ := ih h
      exact ⟨RepL.cons_ (.bool _) h1, by simpa [Value.oneCell'] using h2⟩
    · rename_i k ps k' vs' e; injection e with e1 e2; subst e1; subst e2
      simp only [Bool.and_eq_true, beq_iff_eq] at h
      obtain ⟨h1, h2⟩ := ih h.2
      rw [h.1]
      exact ⟨RepL.cons_ (.int _ _) h1, by simpa [Value.oneCell'] using h2⟩
    · rename_i ps s vs' e; injection e with e1 e2; subst e1; subst e2
      simp only [Bool.and_eq_true, List.isEmpty_iff] at h
      obtain ⟨h1, h2⟩ := ih h.2
      refine ⟨RepL.cons_ ?_ h1, by simpa [Value.oneCell'] using h2⟩
      have hs : s = ⟨[].toArray⟩ := by
        cases s with | mk d => congr; apply Array.ext'; simpa using h.1
      rw [hs]; exact .str []
    · rename_i z ps vs' e; injection e with e1 e2; subst e1; subst e2
      obtain ⟨h1, h2⟩ := ih h
      exact ⟨RepL.cons_ (.nil _) h1, by simpa [Value.oneCell'] using h2⟩
    · rename_i ps vs' e; injection e with e1 e2; subst e1; subst e2
      obtain ⟨h1, h2⟩ := ih h
      exact ⟨RepL.cons_ (.raw _ rfl) h1, by simpa [Value.oneCell'] using h2⟩
    · rename_i ps vs' e; injection e with e1 e2; subst e1; subst e2
      obtain ⟨h1, h2⟩ := ih h
      exact ⟨RepL.cons_ (.raw _ rfl) h1, by simpa [Value.oneCell'] using h2⟩
    · rename_i ps vs' e; injection e with e1 e2; subst e1; subst e2
      obtain ⟨h1, h2⟩ := ih h
      exact ⟨RepL.cons_ (.raw _ rfl) h1, by simpa [Value.oneCell'] using h2⟩
    · cases h

theorem zeroOf_rep {t : TypeId} {cs : List PV} (h : zeroOf P t = some cs) : ∃ z, (zeroValue t).run P w = .ok z w ∧ RepL X γ w cs z.cells.toList ∧ (∀ u ∈ z.cells.toList, u.oneCell' = true) ∧ z.cells.size = P.cellsOf t ∧
    ∃ i, P.info? t = some i ∧ i.zero = some z ∧ i.size = P.cellsOf t ∧ i.bytes = P.bytesOf t := by
  unfold zeroOf at h
  split at h
  · rename_i cs' z hz hi
    split at h
    · rename_i hc
      injection h with h; subst h
      simp only [Bool.and_eq_true, beq_iff_eq] at hc
      obtain ⟨i, hi', hz'⟩ := Option.map_eq_some_iff.1 hi
      obtain ⟨h1, h2⟩ := sameCells_rep (X := X) (γ := γ) (w := w) hc.1
      refine ⟨z, ?_, h1, h2, hc.2, i, hi', hz', by simp [Program.cellsOf, hi'], by simp [Program.bytesOf, hi']⟩
      simp [zeroValue, run_typeInfo w hi', hz']
    · cases h
  · cases h

/-! ### building structs -/
theorem foldl_set : ∀ (vs : List Value) (cs : Array Value) (off k : Nat), off + k + vs.length ≤ cs.size →
    ((vs.zipIdx k).foldl (fun (a : Array Value) (p : Value × Nat) => a.setIfInBounds (off + p.2) p.1) cs).toList = cs.toList.take (off + k) ++ vs ++ cs.toList.drop (off + k + vs.length)
  | [], cs, off, k, h => by simp
  | v :: vs, cs, off, k, h => by
    simp only [List.zipIdx_cons, List.foldl_cons]
    rw [foldl_set vs _ off (k + 1) (by simp at h ⊢; omega)]
    have hlt : off + k < cs.toList.length := by simp at h ⊢; omega
    have := list_seg_step cs.toList (off + k) v vs (by simp at h ⊢; omega)
    simp only [Array.toList_setIfInBounds, List.length_cons] at this ⊢
    rw [show off + (k + 1) = off + k + 1 from by omega]
    simpa [Nat.add_assoc, Nat.add_comm, Nat.add_left_comm] using this

theorem zipIdx_foldl (vs : Array Value) (cs : Array Value) (off : Nat) (h : off + vs.size ≤ cs.size) :
    (vs.zipIdx.foldl (fun (a : Array Value) (p : Value × Nat) => a.setIfInBounds (off + p.2) p.1) cs).toList = cs.toList.take off ++ vs.toList ++ cs.toList.drop (off + vs.toList.length) := by
  have := foldl_set vs.toList cs off 0 (by simpa using h)
  rw [← Array.foldl_toList, Array.toList_zipIdx]
  simpa using this

theorem fill_sound {ρ : Operand → Value} (place : Nat → Option (Nat × Nat)) (places : List (Nat × Nat × TypeId)) (hpl : ∀ i, place i = (places[i]?).map (fun x => (x.1, x.2.1))) :
    ∀ (ps : List (Nat × Operand)) (qs : List (Nat × Nat × A)) (vs : List PV) (cs cs' : List PV) (cur : Array Value), parts P places ps = some qs → RepL X γ w vs (ps.map fun x => ρ x.2) →
      RepL X γ w cs cur.toList → (∀ u ∈ cur.toList, u.oneCell' = true) → fillV cs qs vs = some cs' →
      ∃ cur', Instr.fill place cur (ps.map fun x => (x.1, ρ x.2)) = some cur' ∧ RepL X γ w cs' cur'.toList ∧ (∀ u ∈ cur'.toList, u.oneCell' = true)
  | [], qs, vs, cs, cs', cur, hp, hv, hc, h1, hf => by
    simp only [parts, Option.some.injEq] at hp; subst hp
    cases vs with
    | nil => simp only [fillV, Option.some.injEq] at hf; subst hf; exact ⟨cur, rfl, hc, h1⟩
    | cons _ _ => simp [fillV] at hf
  | (i, x) :: ps, qs, vs, cs, cs', cur, hp, hv, hc, h1, hf => by
    simp only [parts] at hp
    split at hp
    · rename_i off n t r' hpi hpr
      obtain ⟨a, ha, rfl⟩ := Option.map_eq_some_iff.1 hp
      cases vs with
      | nil => simp [fillV] at hf
      | cons v vs =>
        simp only [fillV] at hf
        split at hf
        · rename_i hcond
          obtain ⟨hl, hfit, hok⟩ := hcond
          obtain ⟨u, us, hu, hvu, hvs⟩ := hv.cons_inv
          simp only [List.map_cons, List.cons.injEq] at hu
          obtain ⟨hu1, hu2⟩ := hu
          rw [← hu1] at hvu; rw [← hu2] at hvs
          obtain ⟨hcr, hc1⟩ := hvu.cells_ hok
          have hcl : (ρ x).cells.size = n := by have := hcr.1; rw [hl] at this; simpa using this
          have hcur : cur.size = cs.length := by have := hc.1; simpa using this
          have hz := zipIdx_foldl (ρ x).cells cur off (by rw [hcl, hcur]; exact hfit)
          have hplace : place i = some (off, n) := by rw [hpl, hpi]; rfl
          obtain ⟨cur', hcur', hr', h1'⟩ := fill_sound place places hpl ps r' vs (setAt cs off v.cells) cs' _ hpr hvs (by rw [hz]; exact RepL.setAt_ hc hcr) (by
            intro y hy; rw [hz] at hy
            simp only [List.mem_append] at hy
            rcases hy with (hy | hy) | hy
            · exact h1 y (List.mem_of_mem_take hy)
            · exact hc1 y hy
            · exact h1 y (List.mem_of_mem_drop hy)) hf
          refine ⟨cur', ?_, hr', h1'⟩
          simp only [List.map_cons, Instr.fill, hplace]
          rw [if_neg (by rw [hcl]; simp; omega)]
          exact hcur'
        · cases hf
    · cases hp
end
end Pv
end Go.Proofs.Ytogoplhikmmggaa
