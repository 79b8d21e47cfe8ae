/- CALLS THAT WRITE INTO A SLICE OF THE CALLER's OWN (numbers, one cell each): a rule for a region that begins with one. -/
import Derived.Test.YtcfcmafmdpbjoaaDoorZde
import Derived.Test.YtcfcmafmdpbjoaaDoorRows
/- A FUNCTION's CONTRACT, FROM ITS BODY. -/
set_option linter.unusedSimpArgs false
set_option linter.unusedVariables false
namespace Go.Proofs.YtcfcmafmdpbjoaaDoor
namespace Pv
open Go.RowKit

def argF : Nat → List PV → List (Nat × PV)
  | _, [] => []
  | k, p :: ps => (k, p) :: argF (k + 1) ps
def boxF : Nat → List SE → List (Nat × SE)
  | _, [] => []
  | k, p :: ps => (k, p) :: boxF (k + 1) ps

theorem argF_get : ∀ (l : List PV) (k t : Nat) (p : PV), frL (argF k l) t = some p → k ≤ t ∧ l[t - k]? = some p
  | [], k, t, p, h => by simp [argF, frL] at h
  | q :: l, k, t, p, h => by
    simp only [argF, frL, upd_eq] at h
    split at h
    · rename_i hk; subst hk; injection h with h; subst h; simp
    · obtain ⟨h1, h2⟩ := argF_get l (k + 1) t p h
      refine ⟨by omega, ?_⟩
      rw [show t - k = (t - (k + 1)) + 1 from by omega]; simpa using h2
theorem boxF_get : ∀ (l : List SE) (k t : Nat), stL (boxF k l) t = if k ≤ t then l[t - k]? else none
  | [], k, t => by simp [boxF, stL]
  | q :: l, k, t => by
    simp only [boxF, stL, upd_eq]
    by_cases hk : t = k
    · subst hk; simp
    · rw [if_neg hk, boxF_get l (k + 1) t]
      by_cases h1 : k + 1 ≤ t
      · rw [if_pos h1, if_pos (by omega), show t - k = (t - (k + 1)) + 1 from by omega]; simp
      · rw [if_neg h1, if_neg (by omega)]

/-! ### results -/
def reN (ids : List Nat) (r : Nat) : Nat := match Nat.ble newBase r with
  | true => ids.getD (r - newBase) 0
  | false => r
def elemB (r : Nat) : List Nat → Bool
  | [] => false
  | x :: l => match Nat.beq r x with
    | true => true
    | false => elemB r l
def kpR (np : Nat) (ids : List Nat) (r : Nat) : Bool := match Nat.blt r np with
  | true => true
  | false => elemB r ids
def noDup : List Nat → Bool
  | [] => true
  | x :: l => match elemB x l with
    | true => false
    | false => noDup l
def allGe (np : Nat) : List Nat → Bool
  | [] => true
  | x :: l => match Nat.ble np x with
    | true => allGe np l
    | false => false
def inRes (np m : Nat) : List Nat → Bool
  | [] => true
  | r :: l => match (Nat.blt r np || (Nat.ble newBase r && Nat.blt r (newBase + m))) with
    | true => inRes np m l
    | false => false
def inResS (np m : Nat) : List SE → Bool
  | [] => true
  | e :: l => match inRes np m e.ids with
    | true => inResS np m l
    | false => false
def leBox (st : Nat → Option SE) (kp : Nat → Bool) (ids : List Nat) : Nat → List SE → Prop
  | _, [] => True
  | k, e' :: l => (match st k with
    | some e => SLe st kp e (e'.ren (reN ids))
    | none => False) ∧ leBox st kp ids (k + 1) l
def leNew (st : Nat → Option SE) (kp : Nat → Bool) (all : List Nat) : List Nat → List SE → Prop
  | [], [] => True
  | i :: is, e' :: l => (match st i with
    | some e => SLe st kp e (e'.ren (reN all))
    | none => False) ∧ leNew st kp all is l
  | _, _ => False
def tupOf : List PV → PV
  | [p] => p
  | ps => .tup ps

/-- A result's place: a slot, or a variable that a slot points to. -/
abbrev RV := Nat × Option (Nat × Bool)
def rvVal (fr : Nat → Option PV) (st : Nat → Option SE) : RV → Option PV
  | (t, none) => fr t
  | (t, some (n, g)) => match fr t with
    | some (.pt r i j) => match st r with
      | some (.box cells) => match i with
        | 0 => asV n g ((cells.drop j).take n)
        | _ + 1 => none
      | _ => none
    | _ => none
def rvL (fr : Nat → Option PV) (st : Nat → Option SE) : List RV → Option (List PV)
  | [] => some []
  | a :: r => match rvVal fr st a, rvL fr st r with
    | some p, some ps => some (p :: ps)
    | _, _ => none
def compR (P : Program) : ResultVar → Option RV
  | .tmp t => some (t, none)
  | .cell a t => match isAggO P t with
    | some g => some (a, some (P.cellsOf t, g))
    | none => none

/-- What is handed back. -/
def ResOK (rs : List RV) (np : Nat) (c : CallRes) (ids : List Nat) (s : PS) : Prop := match s with
  | ⟨_, fr, st, _, _⟩ => match rvL fr st rs with
    | none => False
    | some ps => (noDup ids && allGe np ids && (Nat.beq c.st.length np) && Nat.ble np newBase && inRes np c.news.length c.val.ids && inResS np c.news.length c.st && inResS np c.news.length c.news) = true ∧
      PLe st (kpR np ids) (tupOf ps) (c.val.ren (reN ids)) ∧ leBox st (kpR np ids) ids 0 c.st ∧ leNew st (kpR np ids) ids ids c.news

/-- The end of a body. -/
def Fin (rs : List RV) (np : Nat) (c : CallRes) : Lv → PS → Prop
  | .ex _, _ => False
  | .nrm, s => s.ok ∧ ∃ ids, ResOK rs np c ids s
  | .ret, s => s.ok ∧ ∃ ids, ResOK rs np c ids s

theorem elemB_iff {r : Nat} : ∀ {l : List Nat}, elemB r l = true ↔ r ∈ l
  | [] => by simp [elemB]
  | x :: l => by
    simp only [elemB, List.mem_cons]
    by_cases h : r = x
    · subst h; simp
    · have : Nat.beq r x = false := by rw [Bool.eq_false_iff]; intro hh; exact h (Nat.eq_of_beq_eq_true hh)
      rw [this]; simp only [h, false_or]; exact elemB_iff
theorem noDup_iff : ∀ {l : List Nat}, noDup l = true → l.Nodup
  | [], _ => List.nodup_nil
  | x :: l, h => by
    simp only [noDup] at h
    split at h
    · cases h
    · rename_i hx
      exact List.nodup_cons.2 ⟨fun hm => by (rw [elemB_iff.2 hm] at hx; cases hx), noDup_iff h⟩
theorem allGe_iff {np : Nat} : ∀ {l : List Nat}, allGe np l = true → ∀ r ∈ l, np ≤ r
  | [], _, r, hr => by simp at hr
  | x :: l, h, r, hr => by
    simp only [allGe] at h
    split at h
    · rename_i hx
      rcases List.mem_cons.1 hr with rfl | hr
      · exact Nat.le_of_ble_eq_true hx
      · exact allGe_iff h r hr
    · cases h
theorem inRes_iff {np m : Nat} : ∀ {l : List Nat}, inRes np m l = true → ∀ r ∈ l, r < np ∨ (newBase ≤ r ∧ r < newBase + m)
  | [], _, r, hr => by simp at hr
  | x :: l, h, r, hr => by
    simp only [inRes] at h
    split at h
    · rename_i hx
      rcases List.mem_cons.1 hr with rfl | hr
      · rw [Bool.or_eq_true, Bool.and_eq_true] at hx
        rcases hx with hx | ⟨hx, hx'⟩
        · exact .inl (by simpa [Nat.blt_eq] using hx)
        · exact .inr ⟨Nat.le_of_ble_eq_true hx, by simpa [Nat.blt_eq] using hx'⟩
      · exact inRes_iff h r hr
    · cases h
theorem inResS_iff {np m : Nat} : ∀ {l : List SE}, inResS np m l = true → ∀ e ∈ l, ∀ r ∈ e.ids, r < np ∨ (newBase ≤ r ∧ r < newBase + m)
  | [], _, r, hr => by simp at hr
  | x :: l, h, r, hr => by
    simp only [inResS] at h
    split at h
    · rename_i hx
      rcases List.mem_cons.1 hr with rfl | hr
      · exact inRes_iff hx
      · exact inResS_iff h r hr
    · cases h
theorem leBox_get {st : Nat → Option SE} {kp : Nat → Bool} {ids : List Nat} : ∀ {l : List SE} {k : Nat}, leBox st kp ids k l → ∀ (i : Nat) (e' : SE), l[i]? = some e' → ∃ e, st (k + i) = some e ∧ SLe st kp e (e'.ren (reN ids))
  | [], k, h, i, e', hi => by simp at hi
  | x :: l, k, h, i, e', hi => by
    obtain ⟨h1, h2⟩ := h
    cases i with
    | zero =>
      simp only [List.getElem?_cons_zero, Option.some.injEq] at hi; subst hi
      split at h1
      · rename_i e he; exact ⟨e, he, h1⟩
      · exact h1.elim
    | succ i =>
      obtain ⟨e, he, hle⟩ := leBox_get h2 i e' (by simpa using hi)
      exact ⟨e, by rw [show k + (i + 1) = k + 1 + i from by omega]; exact he, hle⟩
theorem leNew_get {st : Nat → Option SE} {kp : Nat → Bool} {all : List Nat} : ∀ {is : List Nat} {l : List SE}, leNew st kp all is l → is.length = l.length ∧ ∀ (i : Nat) (e' : SE), l[i]? = some e' → ∃ r e, is[i]? = some r ∧ st r = some e ∧ SLe st kp e (e'.ren (reN all))
  | [], [], h => ⟨rfl, fun i e' hi => by simp at hi⟩
  | [], _ :: _, h => by simp [leNew] at h
  | _ :: _, [], h => by simp [leNew] at h
  | r :: is, x :: l, h => by
    obtain ⟨h1, h2⟩ := h
    obtain ⟨g1, g2⟩ := leNew_get h2
    refine ⟨by simp [g1], fun i e' hi => ?_⟩
    cases i with
    | zero =>
      simp only [List.getElem?_cons_zero, Option.some.injEq] at hi; subst hi
      split at h1
      · rename_i e he; exact ⟨r, e, rfl, he, h1⟩
      · exact h1.elim
    | succ i =>
      obtain ⟨r', e, k1, k2, k3⟩ := g2 i e' (by simpa using hi)
      exact ⟨r', e, by simpa using k1, k2, k3⟩

section
variable {P : Program} {wr : Bool}

def rvRun (tmps : Array Value) : ResultVar → Sem Value
  | .tmp t => pure (tmps.getD t undef)
  | .cell a t => do loadVar t (← asAddr (tmps.getD a undef))

theorem run_result {X : Cx} {γ : Gh} {w : World} {fr : Nat → Option PV} {st : Nat → Option SE} (hst : RepSt X γ w st) {tmps : Array Value} (hfr : ∀ t p, fr t = some p → Rep X γ w p (tmps.getD t undef)) {r : ResultVar} {v : RV} {p : PV}
    (hv : compR P r = some v) (hp : rvVal fr st v = some p) :
    ∃ u, (rvRun tmps r).run P w = .ok u w ∧ Rep X γ w p u := by
  cases r with
  | tmp t =>
    simp only [compR, Option.some.injEq] at hv; subst hv
    exact ⟨_, rfl, hfr t p hp⟩
  | cell a t =>
    simp only [compR] at hv
    split at hv
    · rename_i g hg
      injection hv with hv; subst hv
      simp only [rvVal] at hp
      split at hp
      · rename_i r i j hr
        split at hp
        · rename_i cells hc
          split at hp
          · have hu := hfr a _ hr
            obtain ⟨v, h1, h2⟩ := ld_box_sound hst hg hu hc rfl hp
            refine ⟨v, ?_, h2⟩
            obtain ⟨ge, b, _, _, he⟩ := pt_inv hu
            show Sem.run P (do loadVar t (← asAddr (tmps.getD a undef))) w = _
            rw [he] at h1 ⊢
            simpa [Instr.loadAt, Instr.sureAddr, asAddr] using h1
          · cases hp
        · cases hp
      · cases hp
    · cases hv

theorem mapM_run {α : Type} {w : World} (g : α → Sem Value) : ∀ (l : List α) (us : List Value), us.length = l.length → (∀ (k : Nat) (x : α) (u : Value), l[k]? = some x → us[k]? = some u → (g x).run P w = .ok u w) → (List.mapM g l).run P w = .ok us w
  | [], us, hl, h => by
    have : us = [] := List.eq_nil_of_length_eq_zero hl
    subst this; rfl
  | x :: l, us, hl, h => by
    cases us with
    | nil => simp at hl
    | cons u us =>
      have h1 := h 0 x u rfl rfl
      have h2 := mapM_run g l us (by simpa using hl) (fun k y v hk hv => h (k + 1) y v (by simpa using hk) (by simpa using hv))
      rw [List.mapM_cons]
      simp [h1, h2]

theorem run_results {X : Cx} {γ : Gh} {w : World} {fr : Nat → Option PV} {st : Nat → Option SE} (hst : RepSt X γ w st) {tmps : Array Value} (hfr : ∀ t p, fr t = some p → Rep X γ w p (tmps.getD t undef)) {fn : Func} {rs : List RV} {ps : List PV}
    (hv : mapO (compR P) fn.results.toList = some rs) (hp : rvL fr st rs = some ps) : ∃ v, (results fn tmps).run P w = .ok v w ∧ Rep X γ w (tupOf ps) v := by
  have hall : ∀ (l : List ResultVar) (rs : List RV) (ps : List PV), mapO (compR P) l = some rs → rvL fr st rs = some ps → ∃ us : List Value, RepL X γ w ps us ∧ us.length = l.length ∧ ∀ (k : Nat) (x : ResultVar) (u : Value), l[k]? = some x → us[k]? = some u → (rvRun tmps x).run P w = .ok u w := by
    intro l
    induction l with
    | nil =>
      intro rs ps h1 h2
      simp only [mapO, Option.some.injEq] at h1; subst h1
      simp only [rvL, Option.some.injEq] at h2; subst h2
      exact ⟨[], RepL.nil_, rfl, fun k x u hk => by simp at hk⟩
    | cons x l ih =>
      intro rs ps h1 h2
      simp only [mapO] at h1
      split at h1
      · rename_i b bs hb hbs
        injection h1 with h1; subst h1
        simp only [rvL] at h2
        split at h2
        · rename_i q qs hq hqs
          injection h2 with h2; subst h2
          obtain ⟨u, hu1, hu2⟩ := run_result (P := P) hst hfr hb hq
          obtain ⟨us, g1, g2, g3⟩ := ih bs qs hbs hqs
          refine ⟨u :: us, RepL.cons_ hu2 g1, by simp [g2], fun k y v hk hv => ?_⟩
          cases k with
          | zero => simp only [List.getElem?_cons_zero, Option.some.injEq] at hk hv; subst hk; subst hv; exact hu1
          | succ k => exact g3 k y v (by simpa using hk) (by simpa using hv)
        · cases h2
      · cases h1
  obtain ⟨us, h1, h2, h3⟩ := hall _ rs ps hv hp
  have h4 := mapM_run (P := P) (w := w) _ _ us h2 h3
  have hl := h1.1
  refine ⟨if h : us.toArray.size = 1 then us.toArray[0] else .tuple us.toArray, ?_, ?_⟩
  · have hres : results fn tmps = (do let vs ← fn.results.mapM (rvRun tmps); pure (if h : vs.size = 1 then vs[0] else .tuple vs)) := by
      unfold results
      have : (fun (x : ResultVar) => match x with
        | .tmp t => (pure (tmps.getD t undef) : Sem Value)
        | .cell a t => do loadVar t (← asAddr (tmps.getD a undef))) = rvRun tmps := by funext x; cases x <;> rfl
      rw [← this]
      rfl
    have e : fn.results = fn.results.toList.toArray := by simp
    rw [hres, e, List.mapM_toArray]
    simp [h4]
  · match ps, us, hl, h1 with
    | [], [], _, h1 => exact .tup _ _ h1.1 h1.2
    | [p], [u], _, h1 =>
      obtain ⟨_, _, hu, hr, _⟩ := h1.cons_inv
      simp only [List.cons.injEq] at hu
      simp only [tupOf]
      rw [hu.1]; exact hr
    | p :: q :: ps, t :: u :: us, _, h1 => exact .tup _ _ h1.1 h1.2

/-- What is checked of a function, by the kernel. -/
def fits (P : Program) (wr : Bool) (fn : Func) (nargs n : Nat) (rs : List RV) : Option C :=
  match fn.body, mapO (compR P) fn.results.toList with
  | some code, some rs' => if rs' = rs ∧ nargs + (fn.ntmps - nargs) = n ∧ (fn.name == "runtime.NumGoroutine") = false then comp P wr code else none
  | _, _ => none

theorem pure_call {f : FuncId} {fn : Func} {cc : C} {args : List PV} {bs : List SE} {c : CallRes} {rs : List RV} {n : Nat} (hmix : P.follows .mixedOrders = true)
    (hf : P.funcs[f]? = some fn) (hfits : fits P wr fn args.length n rs = some cc.er) (hbox : bs.any SE.isRow = false)
    (h : vc (PureCall P) (LSem P wr bs.length) cc (Fin rs bs.length c) (St n (argF 0 args) (boxF 0 bs))) : PureCall P f args bs c := by
  have hparts : ∃ code, fn.body = some code ∧ mapO (compR P) fn.results.toList = some rs ∧ args.length + (fn.ntmps - args.length) = n ∧ (fn.name == "runtime.NumGoroutine") = false ∧ comp P wr code = some cc.er := by
    unfold fits at hfits
    split at hfits
    · rename_i code rs' h1 h2
      split at hfits
      · rename_i hc
        obtain ⟨rfl, hc2, hc3⟩ := hc
        exact ⟨code, h1, h2, hc2, hc3, hfits⟩
      · cases hfits
    · cases hfits
  obtain ⟨code, hb, hres, hn, hnm, hcomp⟩ := hparts
  refine ⟨⟨fn, hf, by rw [hb]; rfl, hnm⟩, ?_⟩
  intro w γ aas ls vals hst hX hargs
  refine calls_of_wp hf hb ?_
  have hsz : vals.toArray.size = args.length := by simpa using hargs.1
  have hR : Rel ⟨w.heap.size, aas, ls, bs.length, γ⟩ w γ.own { tmps := vals.toArray ++ Array.replicate (fn.ntmps - vals.toArray.size) undef, defers := [] } w (St n (argF 0 args) (boxF 0 bs)) γ := by
    have hstf : (fun r => bs[r]?) = stL (boxF 0 bs) := by funext r; rw [boxF_get]; simp
    have hltb : ∀ r ge, γ r = some ge → r < bs.length := fun r ge hr => by
      have hd := hst.dom r
      rw [hr] at hd
      obtain ⟨e, he⟩ := Option.isSome_iff_exists.1 hd.symm
      exact (List.getElem?_eq_some_iff.1 he).1
    refine ⟨by simp only [Array.size_append, Array.size_replicate, hsz, St]; exact hn, rfl, fun t p hp => ?_, by rw [hstf] at hst; exact hst, Keeps.refl _ _, rfl, fun r ge b hr hb => .inr ⟨hltb r ge hr, ge, hr, hb⟩, fun b hb => ⟨hX b hb, fun ho => ?_⟩, fun r hr => ?_, fun r ge b hr hg hb => ⟨r, ge, hg, hb⟩⟩
    · obtain ⟨_, h1⟩ := argF_get args 0 t p hp
      rw [Nat.sub_zero] at h1
      have hlt := (List.getElem?_eq_some_iff.1 h1).1
      obtain ⟨u, hu, hr⟩ := hargs.at h1
      refine ⟨by simp only [St]; omega, ?_⟩
      have : (vals.toArray ++ Array.replicate (fn.ntmps - vals.toArray.size) undef).getD t undef = u := by
        have ht : t < vals.length := by rw [hargs.1]; exact hlt
        rw [Array.getD_eq_getD_getElem?, Array.getElem?_append_left (by simpa using ht)]
        simp [hu]
      simp only [this]; exact hr
    · obtain ⟨h1, h2⟩ := hst.asOff b ho
      exact hb.elim h1 h2
    · have h1 : bs[r]? = some (bs[r]'hr) := List.getElem?_eq_getElem hr
      have h2 := List.any_eq_false.1 hbox (bs[r]'hr) (List.getElem_mem hr)
      simp only [St, boxF_get, Nat.zero_le, if_true, Nat.sub_zero, h1]
      cases hc : bs[r] with
      | box l => rfl
      | row _ _ _ _ _ => rw [hc] at h2; simp [SE.isRow] at h2
      | bld _ _ _ =>
        have hd := hst.dom r
        rw [h1] at hd
        obtain ⟨ge, hge⟩ := Option.isSome_iff_exists.1 hd
        exact ⟨ge, ge, hge, hge, rfl, rfl⟩
  have hfinOk : ∀ lv s, Fin rs bs.length c lv s → s.ok := fun lv s hs => by cases lv <;> first | exact hs.1 | exact hs.elim
  refine wp_mono ((vc_sound hmix cc code _ _ hfinOk hcomp h).2 _ _ _ _ _ _ rfl hR) ?_
  rintro e a' w' ⟨lv, s', γ', he, hq, hR'⟩
  have key : (∃ ids, ResOK rs bs.length c ids s') → a'.defers = [] ∧ ∃ v, (results fn a'.tmps).run P w' = .ok v w' ∧ ∃ v' γ', Ending.returned v = .returned v' ∧ Rep ⟨w.heap.size, aas, ls, bs.length, γ⟩ γ' w' c.val v' ∧ RepSt ⟨w.heap.size, aas, ls, bs.length, γ⟩ γ' w' (resSt c) ∧
      Keeps γ.own w w' ∧ (∀ r, r < bs.length → ParOK (γ' r) (γ r) (resSt c r)) ∧ (∀ r ge b, γ' r = some ge → ge.has b → w.heap.size ≤ b ∨ ∃ ge0, γ r = some ge0 ∧ ge0.has b) := by
    rintro ⟨ids, hro⟩
    obtain ⟨n', fr, st, ok, log⟩ := s'
    simp only [ResOK] at hro
    split at hro
    · exact hro.elim
    · rename_i ps hps
      obtain ⟨vv, hrun, hrv⟩ := run_results (P := P) (tmps := a'.tmps) hR'.st (fun t p hp => (hR'.fr t p hp).2) hres hps
      refine ⟨hR'.defers, vv, hrun, ?_⟩
      obtain ⟨hbool, hval, hbx, hnw⟩ := hro
      simp only [Bool.and_eq_true] at hbool
      obtain ⟨⟨⟨⟨⟨⟨b1, b2⟩, b3⟩, b4⟩, b5⟩, b6⟩, b7⟩ := hbool
      have d1 := noDup_iff b1
      have d2 := allGe_iff b2
      have d3 := Nat.eq_of_beq_eq_true b3
      have d4 := Nat.le_of_ble_eq_true b4
      obtain ⟨d5, d6⟩ := leNew_get hnw
      have hdom : ∀ r, (r < bs.length ∨ (newBase ≤ r ∧ r < newBase + c.news.length)) → ∃ e, resSt c r = some e := fun r hr => by
        unfold resSt
        rcases hr with hr | ⟨hr, hr'⟩
        · rw [if_neg (by omega)]; exact ⟨_, List.getElem?_eq_getElem (by omega)⟩
        · rw [if_pos hr]; exact ⟨_, List.getElem?_eq_getElem (by omega)⟩
      have hre1 : ∀ r, newBase ≤ r → reN ids r = ids.getD (r - newBase) 0 := fun r hr => by unfold reN; rw [Nat.ble_eq_true_of_le hr]
      have hre2 : ∀ r, r < newBase → reN ids r = r := fun r hr => by
        unfold reN
        have : Nat.ble newBase r = false := by rw [Bool.eq_false_iff]; intro hh; have := Nat.le_of_ble_eq_true hh; omega
        rw [this]
      have hcases : ∀ r e', resSt c r = some e' → (r < bs.length ∧ c.st[r]? = some e' ∧ reN ids r = r) ∨ (newBase ≤ r ∧ c.news[r - newBase]? = some e' ∧ ids[r - newBase]? = some (reN ids r)) := fun r e' hr => by
        unfold resSt at hr
        split at hr
        · rename_i hb
          right
          refine ⟨hb, hr, ?_⟩
          have hlt := (List.getElem?_eq_some_iff.1 hr).1
          rw [hre1 r hb]
          have : r - newBase < ids.length := by omega
          simp [List.getD_eq_getElem?_getD, this]
        · rename_i hb
          left
          exact ⟨by rw [← d3]; exact (List.getElem?_eq_some_iff.1 hr).1, hr, hre2 r (by omega)⟩
      have hcl : ∀ e', (e' ∈ c.st ∨ e' ∈ c.news) → ∀ q ∈ e'.ids, ∃ e2, resSt c q = some e2 := fun e' hm q hq => by
        rcases hm with hm | hm
        · exact hdom q (inResS_iff b6 e' hm q hq)
        · exact hdom q (inResS_iff b7 e' hm q hq)
      have hmem : ∀ k r, ids[k]? = some r → elemB r ids = true := fun k r hk => elemB_iff.2 (List.mem_of_getElem? hk)
      obtain ⟨h1, h2, h3⟩ := hR'.st.ent (st' := resSt c) (ρ := reN ids) (kp := kpR bs.length ids) hR'.rowLo (fun r e' hr => by
          rcases hcases r e' hr with ⟨k1, k2, k3⟩ | ⟨k1, k2, k3⟩
          · obtain ⟨e, g1, g2⟩ := leBox_get hbx r e' k2
            rw [Nat.zero_add] at g1
            refine ⟨e, by rw [k3]; exact g1, g2, ?_, hcl e' (.inl (List.mem_of_getElem? k2))⟩
            rw [k3]; unfold kpR
            have : Nat.blt r bs.length = true := by rw [Nat.blt_eq]; exact k1
            rw [this]
          · obtain ⟨r', e, g1, g2, g3⟩ := d6 _ e' k2
            rw [k3] at g1; injection g1 with g1; subst g1
            refine ⟨e, g2, g3, ?_, hcl e' (.inr (List.mem_of_getElem? k2))⟩
            unfold kpR
            split
            · rfl
            · exact hmem _ _ k3)
        (fun r r' e e' hr hr' hh => by
          rcases hcases r e hr with ⟨k1, k2, k3⟩ | ⟨k1, k2, k3⟩ <;> rcases hcases r' e' hr' with ⟨k1', k2', k3'⟩ | ⟨k1', k2', k3'⟩
          · omega
          · have := d2 _ (List.mem_of_getElem? k3'); omega
          · have := d2 _ (List.mem_of_getElem? k3); omega
          · have hi := (List.getElem?_inj (List.getElem?_eq_some_iff.1 k3).1 d1).1 (k3.trans (by rw [hh]; exact k3'.symm))
            omega)
      refine ⟨_, _, rfl, h3 _ _ _ hrv hval (fun r hr => hdom r (inRes_iff b5 r hr)), h1, hR'.keeps, fun r hr => ?_, fun r ge b hg hb => ?_⟩
      · obtain ⟨e', he'⟩ := hdom r (.inl hr)
        have hp := hR'.par r hr
        have hre : reG γ' (resSt c) (reN ids) r = γ' r := by unfold reG; rw [he', hre2 r (by omega)]; rfl
        rw [he', hre]
        rcases hcases r e' he' with ⟨k1, k2, k3⟩ | ⟨k1, _, _⟩
        · obtain ⟨e, g1, g2⟩ := leBox_get hbx r e' k2
          rw [Nat.zero_add] at g1
          replace hp : ParOK (γ' r) (γ r) (some e) := by rw [← g1]; exact hp
          cases e with
          | box l =>
            cases e' with
            | box l' => exact hp
            | row _ _ _ _ _ => simp [SLe, SE.ren] at g2
            | bld _ _ _ => simp [SLe, SE.ren] at g2
          | row _ _ _ _ _ => exact hp.elim
          | bld _ _ _ =>
            cases e' with
            | box l' => simp [SLe, SE.ren] at g2
            | row _ _ _ _ _ => simp [SLe, SE.ren] at g2
            | bld _ _ _ => exact hp
        · omega
      · have hsome : (∃ e', resSt c r = some e') ∧ γ' (reN ids r) = some ge := by
          unfold reG at hg
          split at hg
          · rename_i hs; exact ⟨Option.isSome_iff_exists.1 hs, hg⟩
          · cases hg
        obtain ⟨⟨e', he'⟩, hg2⟩ := hsome
        rcases hR'.own (reN ids r) ge b hg2 hb with h | ⟨h4, ge0, h5, h6⟩
        · exact .inl h
        · rcases hcases r e' he' with ⟨k1, k2, k3⟩ | ⟨k1, k2, k3⟩
          · rw [k3] at h5; exact .inr ⟨ge0, h5, h6⟩
          · have := d2 _ (List.mem_of_getElem? k3)
            have h4' : reN ids r < bs.length := h4
            omega
  cases e <;> simp only [lvOf, Option.some.injEq] at he
  · subst he; exact key hq.2
  · subst he; exact hq.elim
  · cases he
  · subst he; exact key hq.2
  · cases he
  · cases he
end
end Pv
end Go.Proofs.YtcfcmafmdpbjoaaDoor

/- SMALL THINGS that every walk uses. -/
set_option linter.unusedSimpArgs false
set_option linter.unusedVariables false
namespace Go.Proofs.YtcfcmafmdpbjoaaDoor
namespace Pv

/-- The greater, the lesser: as the evaluator puts them. -/
def mx (a b : Int) : Int := if b > a then b else a
def mn (a b : Int) : Int := if b < a then b else a
theorem mx_eq (a b : Int) : mx a b = max a b := by unfold mx; split <;> omega
theorem mn_eq (a b : Int) : mn a b = min a b := by unfold mn; split <;> omega

theorem inR64 (n : Int) : inR .i64 n ↔ -9223372036854775808 ≤ n ∧ n ≤ 9223372036854775807 := by
  unfold inR; simp [IntKind.min, IntKind.max, IntKind.signed, IntKind.bits]
theorem inR64_of {n : Int} (h1 : -9223372036854775808 ≤ n) (h2 : n ≤ 9223372036854775807) : inR .i64 n := (inR64 n).2 ⟨h1, h2⟩
theorem mul_rng {a b A B : Int} (h0 : 0 ≤ a) (h1 : a ≤ A) (h2 : 0 ≤ b) (h3 : b ≤ B) : 0 ≤ a * b ∧ a * b ≤ A * B :=
  ⟨Int.mul_nonneg h0 h2, Int.mul_le_mul h1 h3 h2 (by omega)⟩

/-- Lists as slices: the i-th element's cells. -/
def fl {α : Type} [Inhabited α] (e : α → List PV) (l : List α) : Nat → List PV := fun i => e (l.getD i default)

theorem fl_append {α : Type} [Inhabited α] (e : α → List PV) (l l' : List α) : RowEq (l.length + l'.length) (appF l.length (fl e l) (fl e l')) (fl e (l ++ l')) := fun i hi => by
  unfold appF fl
  split
  · rename_i h; rw [List.getD_eq_getElem?_getD, List.getD_eq_getElem?_getD, List.getElem?_append_left h]
  · rename_i h; rw [List.getD_eq_getElem?_getD, List.getD_eq_getElem?_getD, List.getElem?_append_right (by omega)]
theorem fl_push {α : Type} [Inhabited α] (e : α → List PV) (l : List α) (x : α) : RowEq (l.length + 1) (appF l.length (fl e l) (fun i => [e x].getD i [])) (fl e (l ++ [x])) := fun i hi => by
  have := fl_append e l [x] i (by simpa using hi)
  rw [← this]
  unfold appF
  split
  · rfl
  · rename_i h
    have : i - l.length = 0 := by omega
    simp [this, fl]
theorem leF_cons {fr : Nat → Option PV} {st : Nat → Option SE} {kp : Nat → Bool} {t : Nat} {p p' : PV} {l : List (Nat × PV)} (h : fr t = some p) (h1 : PLe st kp p p') (h2 : leF fr st kp l) : leF fr st kp ((t, p') :: l) :=
  ⟨by rw [h]; exact h1, h2⟩
theorem leS_cons {st : Nat → Option SE} {kp : Nat → Bool} {t : Nat} {p p' : SE} {l : List (Nat × SE)} (h : st t = some p) (h1 : SLe st kp p p') (h2 : leS st kp l) : leS st kp ((t, p') :: l) :=
  ⟨by rw [h]; exact h1, h2⟩
theorem getD_mem {α : Type} [Inhabited α] {l : List α} {i : Nat} (h : i < l.length) : l.getD i default ∈ l := by
  rw [List.getD_eq_getElem?_getD, List.getElem?_eq_getElem h]; exact List.getElem_mem h
theorem getD_some {α : Type} [Inhabited α] {l : List α} {i : Nat} (h : i < l.length) : l[i]? = some (l.getD i default) := by
  rw [List.getD_eq_getElem?_getD, List.getElem?_eq_getElem h]; rfl
/-- A contract holds of arguments that say more. -/
theorem PureCall.arg_le {P : Program} {f : FuncId} {args args' : List PV} {bs : List SE} {c : CallRes} (h : PureCall P f args' bs c) (hb : bs.any SE.isRow = false) (hl : PLeL (fun r => bs[r]?) (fun _ => true) args args') : PureCall P f args bs c := by
  refine ⟨h.1, fun w γ aas ls vals hst hX ha => h.2 w γ aas ls vals hst hX ?_⟩
  refine ha.le hst (fun r ge b τ e z n f hr hs hbk => ?_) (fun r ge hr _ => hr) (fun r ge hr => ⟨hr, rfl⟩) hl
  have := List.any_eq_false.1 hb _ (List.mem_of_getElem? hs)
  simp [SE.isRow] at this

/-- The first number that is not 0. -/
def scan (f : Nat → Int) : Nat → Nat → Int
  | _, 0 => 0
  | i, n + 1 => if f i ≠ 0 then f i else scan f (i + 1) n
theorem scan_zero {f : Nat → Int} : ∀ {i n : Nat}, scan f i n = 0 → ∀ k, i ≤ k → k < i + n → f k = 0
  | i, 0, _, k, h1, h2 => by omega
  | i, n + 1, h, k, h1, h2 => by
    simp only [scan] at h
    split at h
    · rename_i hf; exact absurd h hf
    · rename_i hf
      by_cases hk : k = i
      · subst hk; exact Classical.not_not.1 hf
      · exact scan_zero h k (by omega) (by omega)
theorem scan_hit {f : Nat → Int} {i n : Nat} (hn : 0 < n) (h : f i ≠ 0) : scan f i n = f i := by
  cases n with
  | zero => omega
  | succ n => simp [scan, h]
theorem scan_step {f : Nat → Int} {i n : Nat} (hn : 0 < n) (h : f i = 0) : scan f i n = scan f (i + 1) (n - 1) := by
  cases n with
  | zero => omega
  | succ n => simp [scan, h]

theorem rowEq0 (f f' : Nat → List PV) : RowEq 0 f f' := fun i hi => absurd hi (Nat.not_lt_zero i)
theorem maxLen_ge {n : Nat} (h : n ≤ 4611686018427387904) : n ≤ maxLen := Nat.le_trans h (by decide)
theorem dec_iff {p : Prop} [Decidable p] {b : Bool} (h : decide p = b) : if b then p else ¬ p := by
  cases b <;> simpa using h
end Pv
end Go.Proofs.YtcfcmafmdpbjoaaDoor

/- THE DECK: lists of numbers to choose by; what New, Next and Mod compute. -/
set_option linter.unusedSimpArgs false
set_option linter.unusedVariables false
namespace Go.Proofs.YtcfcmafmdpbjoaaDoor
namespace Pv
theorem mix : Tryd.prog.follows .mixedOrders = true := by kernel_rfl
def c20 : C := (.seq (.reg [⟨(some 4), 64, none, .mv (.c (.int .i64 0))⟩])
  (.seq (.reg [⟨(some 5), 80, none, .mv (.t 0)⟩,
    ⟨(some 6), 96, none, .mv (.t 1)⟩,
    ⟨(some 7), 112, none, .bi false .rem (.t 5) (.t 6)⟩,
    ⟨(some 8), 128, none, .mv (.t 1)⟩,
    ⟨(some 9), 144, none, .bi false .add (.t 7) (.t 8)⟩,
    ⟨(some 10), 160, none, .mv (.t 1)⟩,
    ⟨(some 11), 176, none, .bi false .rem (.t 9) (.t 10)⟩,
    ⟨(some 4), 64, none, .mv (.t 11)⟩])
  .ret))
def c27 : C := (.seq (.reg [⟨(some 4), 64, none, .mv (.c (.int .i64 0))⟩])
  (.seq (.seq (.drw [⟨(some 6), 96, none, .mv (.t 1)⟩,
    ⟨(some 7), 112, none, .bi false .lss (.t 6) (.c (.int .i64 1))⟩,
    ⟨(some 8), 128, none, .mv (.t 7)⟩,
    ⟨(some 9), 144, (some (8, false)), .mv (.t 0)⟩,
    ⟨(some 10), 160, (some (8, false)), .nc (.t 9)⟩,
    ⟨(some 11), 176, (some (8, false)), .fa 1 (.t 10)⟩,
    ⟨(some 12), 192, (some (8, false)), .ld 1 false (.t 11)⟩,
    ⟨(some 13), 208, (some (8, false)), .mv (.t 0)⟩,
    ⟨(some 14), 224, (some (8, false)), .nc (.t 13)⟩,
    ⟨(some 15), 240, (some (8, false)), .fa 0 (.t 14)⟩,
    ⟨(some 16), 256, (some (8, false)), .ld 1 false (.t 15)⟩,
    ⟨(some 17), 272, (some (8, false)), .len (.t 16)⟩,
    ⟨(some 18), 288, (some (8, false)), .bi false .geq (.t 12) (.t 17)⟩,
    ⟨(some 19), 304, none, .pick (.t 8) (.c (.bool true)) (.t 18)⟩]
    [(3, 7, 9), (3, 8, 9), (3, 9, 9), (3, 10, 9), (3, 11, 9), (4, 7, 10), (4, 8, 10), (4, 9, 10), (4, 10, 10), (4, 11, 10), (5, 7, 11), (5, 8, 11), (5, 9, 11), (5, 10, 11), (5, 11, 11), (6, 7, 12), (6, 8, 12), (6, 9, 12), (6, 10, 12), (6, 11, 12)])
  (.cond (.t 19) (.seq (.reg [⟨(some 4), 64, none, .mv (.c (.int .i64 0))⟩])
  .ret) .skip))
  (.seq (.drw [⟨(some 20), 320, none, .mv (.t 0)⟩,
    ⟨(some 21), 336, none, .nc (.t 20)⟩,
    ⟨(some 22), 352, none, .fa 0 (.t 21)⟩,
    ⟨(some 23), 368, none, .ld 1 false (.t 22)⟩,
    ⟨(some 24), 384, none, .mv (.t 0)⟩,
    ⟨(some 25), 400, none, .nc (.t 24)⟩,
    ⟨(some 26), 416, none, .fa 1 (.t 25)⟩,
    ⟨(some 27), 432, none, .ld 1 false (.t 26)⟩,
    ⟨(some 28), 448, none, .ia 1 (.t 23) (.t 27)⟩,
    ⟨(some 29), 464, none, .ld 1 false (.t 28)⟩,
    ⟨(some 5), 80, none, .mv (.t 29)⟩]
    [(0, 4, 20), (0, 5, 20), (0, 6, 20), (0, 7, 20), (1, 4, 21), (1, 5, 21), (1, 6, 21), (1, 7, 21), (2, 4, 22), (2, 5, 22), (2, 6, 22), (2, 7, 22), (3, 4, 23), (3, 5, 23), (3, 6, 23), (3, 7, 23)])
  (.seq (.reg [⟨(some 30), 480, none, .mv (.t 0)⟩,
    ⟨(some 31), 496, none, .nc (.t 30)⟩,
    ⟨(some 32), 512, none, .fa 1 (.t 31)⟩,
    ⟨(some 33), 528, none, .ld 1 false (.t 32)⟩,
    ⟨(some 34), 544, none, .bi false .add (.t 33) (.c (.int .i64 1))⟩,
    ⟨(some 35), 560, none, .nc (.t 30)⟩,
    ⟨(some 36), 576, none, .fa 1 (.t 35)⟩,
    ⟨none, 0, none, .st 1 (.t 36) (.t 34)⟩])
  (.seq (.reg [⟨(some 37), 592, none, .mv (.t 5)⟩,
    ⟨(some 38), 608, none, .mv (.t 1)⟩,
    ⟨(some 39), 624, none, .call (.c (.fn (.func 20) [] [])) [(.t 37), (.t 38)]⟩,
    ⟨(some 4), 64, none, .mv (.t 39)⟩])
  .ret)))))
def c12 : C := (.seq (.reg [⟨(some 2), 32, none, .mv (.c (.raw (.pointer none)))⟩])
  (.seq (.reg [⟨(some 3), 48, none, .mv (.t 0)⟩,
    ⟨(some 4), 64, none, .bd [(.nil 1), (.int .i64 0)] [(0, 1, (.t 3))]⟩,
    ⟨(some 5), 80, none, .bx 2 (.t 4)⟩,
    ⟨(some 2), 32, none, .mv (.t 5)⟩])
  .ret))
theorem fits20 : fits Tryd.prog false Tryd.f20 2 12 [(4, none)] = some c20.er := by kernel_rfl
theorem fits27 : fits Tryd.prog false Tryd.f27 2 40 [(4, none)] = some c27.er := by kernel_rfl
theorem fits12 : fits Tryd.prog false Tryd.f12 1 6 [(2, none)] = some c12.er := by kernel_rfl

theorem bif_t {a b c : Bool} : (bif a then b else c) = true ↔ (a = true ∧ b = true) ∨ (a = false ∧ c = true) := by cases a <;> simp
theorem bif_f {a b c : Bool} : (bif a then b else c) = false ↔ (a = true ∧ b = false) ∨ (a = false ∧ c = false) := by cases a <;> simp
def eInt (n : Int) : List PV := [.int .i64 n]
theorem mod_mod (n k : Int) (hk : 0 < k) : (n.tmod k + k).tmod k = n % k := by
  have h1 : -k < n.tmod k := by
    have := Int.lt_tmod_of_pos n hk; omega
  have h2 : n.tmod k < k := Int.tmod_lt_of_pos n hk
  rw [Int.tmod_eq_emod_of_nonneg (by omega), Int.add_emod_right]
  have := Int.mul_tdiv_add_tmod n k
  rw [← this]
  rw [Int.add_comm (k * _), Int.add_mul_emod_self_left]
  congr 1
  rw [Int.add_comm, this]

theorem call_mod (n k : Int) (hk : 0 < k) (hk2 : k ≤ 4611686018427387904) : PureCall Tryd.prog 20 [.int .i64 n, .int .i64 k] [] ⟨.int .i64 (n % k), [], []⟩ := by
  refine pure_call mix Tryd.func20 fits20 rfl ?_
  conv => whnf
  have h1 := Int.lt_tmod_of_pos n hk
  have h2 := Int.tmod_lt_of_pos n hk
  refine ⟨?_, [], ?_⟩
  · (try conv => whnf)
    (repeat' (first | exact True.intro | exact fun _ h => h | refine inR64_of ?_ ?_ | apply And.intro | refine maxLen_ge ?_)) <;> (first | omega | (dsimp only; omega) | (dsimp only [List.length_cons, List.length_nil]; omega) | (intro hg; rw [hg]; rfl) | (intro hg hh; rw [hg, hh]; rfl) | (intro hg; simp [-List.getD_eq_getElem?_getD, -Int.default_eq_zero] at hg; first | omega | (refine inR64_of ?_ ?_ <;> omega) | (constructor <;> omega)) | (simp [-List.getD_eq_getElem?_getD, -Int.default_eq_zero]; done))
  conv => whnf
  refine ⟨rfl, ?_, trivial, trivial⟩
  all_goals repeat' (first | exact True.intro | refine leF_cons rfl ?_ ?_ | refine leS_cons rfl ?_ ?_ | (show PLe _ _ _ _; conv => whnf) | (show SLe _ _ _ _; conv => whnf) | (show PLeL _ _ _ _; conv => whnf) | apply And.intro | rfl | exact Nat.le_refl _ | exact fun _ _ => rfl | exact rowEq0 _ _)
  exact mod_mod n k hk

/-- A deck: numbers, and how many of them are taken. -/
structure Dk where
  l : List Int
  at_ : Nat
  deriving Inhabited
def eDk (τ : Nat) (d : Dk) : List PV := [.sl τ 1 d.l.length (fl eInt d.l), .int .i64 d.at_]
def nxt (d : Dk) (n : Int) : Int := if n < 1 ∨ d.l.length ≤ d.at_ then 0 else d.l.getD d.at_ default % n
def nxtD (d : Dk) (n : Int) : Dk := if n < 1 ∨ d.l.length ≤ d.at_ then d else ⟨d.l, d.at_ + 1⟩
theorem nxtD_len (d : Dk) (n : Int) : (nxtD d n).l = d.l := by unfold nxtD; split <;> rfl
theorem nxtD_at (d : Dk) (n : Int) : (nxtD d n).at_ ≤ d.at_ + 1 := by unfold nxtD; split <;> simp
theorem nxt_rng (d : Dk) (n : Int) : 0 ≤ nxt d n ∧ (nxt d n < n ∨ nxt d n = 0) := by
  unfold nxt; split
  · omega
  · rename_i h
    have h1 : 0 < n := by omega
    exact ⟨Int.emod_nonneg _ (by omega), .inl (Int.emod_lt_of_pos _ h1)⟩
theorem nxt_lt (d : Dk) {n : Int} (h : 0 < n) : 0 ≤ nxt d n ∧ nxt d n < n := by
  have := nxt_rng d n; omega

theorem call_next (τ : Nat) (d : Dk) (n : Int) (hd : d.at_ ≤ 1000000000) (hn : n ≤ 4611686018427387904) : PureCall Tryd.prog 27 [.pt 0 0 0, .int .i64 n] [.box (eDk τ d)] ⟨.int .i64 (nxt d n), [.box (eDk τ (nxtD d n))], []⟩ := by
  refine pure_call mix Tryd.func27 fits27 rfl ?_
  conv => whnf
  refine ⟨rfl, ?_⟩
  conv => whnf
  refine ⟨?_, fun hc => ?_, fun hc => ?_⟩
  · (try conv => whnf)
    (repeat' (first | exact True.intro | exact fun _ h => h | refine inR64_of ?_ ?_ | apply And.intro | refine maxLen_ge ?_)) <;> (first | omega | (dsimp only; omega) | (dsimp only [List.length_cons, List.length_nil]; omega) | (intro hg; rw [hg]; rfl) | (intro hg hh; rw [hg, hh]; rfl) | (intro hg; simp [-List.getD_eq_getElem?_getD, -Int.default_eq_zero] at hg; first | omega | (refine inR64_of ?_ ?_ <;> omega) | (constructor <;> omega)) | (simp [-List.getD_eq_getElem?_getD, -Int.default_eq_zero]; done))
  · simp [-List.getD_eq_getElem?_getD, -Int.default_eq_zero] at hc
    have hc' : n < 1 ∨ d.l.length ≤ d.at_ := by omega
    rw [show nxt d n = 0 from if_pos hc', show nxtD d n = d from if_pos hc']
    conv => whnf
    refine ⟨?_, [], ?_⟩
    · (try conv => whnf)
      (repeat' (first | exact True.intro | exact fun _ h => h | refine inR64_of ?_ ?_ | apply And.intro | refine maxLen_ge ?_)) <;> (first | omega | (dsimp only; omega) | (dsimp only [List.length_cons, List.length_nil]; omega) | (intro hg; rw [hg]; rfl) | (intro hg hh; rw [hg, hh]; rfl) | (intro hg; simp [-List.getD_eq_getElem?_getD, -Int.default_eq_zero] at hg; first | omega | (refine inR64_of ?_ ?_ <;> omega) | (constructor <;> omega)) | (simp [-List.getD_eq_getElem?_getD, -Int.default_eq_zero]; done))
    conv => whnf
    refine ⟨rfl, ?_, ?_, trivial⟩
    all_goals repeat' (first | exact True.intro | refine leF_cons rfl ?_ ?_ | refine leS_cons rfl ?_ ?_ | (show PLe _ _ _ _; conv => whnf) | (show SLe _ _ _ _; conv => whnf) | (show PLeL _ _ _ _; conv => whnf) | apply And.intro | rfl | exact Nat.le_refl _ | exact fun _ _ => rfl | exact rowEq0 _ _)
  · simp [-List.getD_eq_getElem?_getD, -Int.default_eq_zero] at hc
    have hc' : ¬ (n < 1 ∨ d.l.length ≤ d.at_) := by omega
    rw [show nxt d n = d.l.getD d.at_ default % n from if_neg hc', show nxtD d n = ⟨d.l, d.at_ + 1⟩ from if_neg hc']
    conv => whnf
    refine ⟨rfl, ?_⟩
    conv => whnf
    refine ⟨_, fun _ => call_mod (d.l.getD ((d.at_ : Int)).toNat default) n (by omega) hn, ?_⟩
    conv => whnf
    refine ⟨?_, [], ?_⟩
    · (try conv => whnf)
      (repeat' (first | exact True.intro | exact fun _ h => h | refine inR64_of ?_ ?_ | apply And.intro | refine maxLen_ge ?_)) <;> (first | omega | (dsimp only; omega) | (dsimp only [List.length_cons, List.length_nil]; omega) | (intro hg; rw [hg]; rfl) | (intro hg hh; rw [hg, hh]; rfl) | (intro hg; simp [-List.getD_eq_getElem?_getD, -Int.default_eq_zero] at hg; first | omega | (refine inR64_of ?_ ?_ <;> omega) | (constructor <;> omega)) | (simp [-List.getD_eq_getElem?_getD, -Int.default_eq_zero]; done))
    conv => whnf
    refine ⟨rfl, ?_, ?_, trivial⟩
    all_goals repeat' (first | exact True.intro | refine leF_cons rfl ?_ ?_ | refine leS_cons rfl ?_ ?_ | (show PLe _ _ _ _; conv => whnf) | (show SLe _ _ _ _; conv => whnf) | (show PLeL _ _ _ _; conv => whnf) | apply And.intro | rfl | exact Nat.le_refl _ | exact fun _ _ => rfl | exact rowEq0 _ _)

theorem call_new (τ : Nat) (l : List Int) : PureCall Tryd.prog 12 [.sl τ 1 l.length (fl eInt l)] [] ⟨.pt 1000000000 0 0, [], [.box (eDk τ ⟨l, 0⟩)]⟩ := by
  refine pure_call mix Tryd.func12 fits12 rfl ?_
  conv => whnf
  refine ⟨trivial, [80], ?_⟩
  conv => whnf
  refine ⟨rfl, ?_, trivial, ?_⟩
  all_goals repeat' (first | exact True.intro | refine leF_cons rfl ?_ ?_ | refine leS_cons rfl ?_ ?_ | (show PLe _ _ _ _; conv => whnf) | (show SLe _ _ _ _; conv => whnf) | (show PLeL _ _ _ _; conv => whnf) | apply And.intro | rfl | exact Nat.le_refl _ | exact fun _ _ => rfl | exact rowEq0 _ _)

end Pv
end Go.Proofs.YtcfcmafmdpbjoaaDoor

/- LAW 24, THE WALKS: valid tables. -/
set_option linter.unusedSimpArgs false
set_option linter.unusedVariables false
namespace Go.Proofs.YtcfcmafmdpbjoaaDoor
namespace Pv
def c9 : C := (.seq (.reg [⟨(some 2), 32, none, .mv (.c (.bool false))⟩])
  (.seq (.reg [⟨(some 3), 48, none, .mv (.t 0)⟩,
    ⟨(some 4), 64, none, .len (.t 3)⟩,
    ⟨(some 5), 80, none, .bi false .leq (.t 4) (.c (.int .i64 500))⟩,
    ⟨(some 2), 32, none, .mv (.t 5)⟩])
  .ret))
theorem fits9 : fits Tryd.prog false Tryd.f9 1 6 [(2, none)] = some c9.er := by kernel_rfl
def c42L1 : C := (.seq (.reg [⟨(some 10), 160, none, .bi false .lss (.t 9) (.t 8)⟩])
  (.seq (.cond (.t 10) .skip (.exit 0))
  (.seq (.block 1 (.seq (.reg [⟨(some 11), 176, none, .mv (.t 9)⟩,
    ⟨(some 12), 192, none, .ia 1 (.t 7) (.t 9)⟩,
    ⟨(some 13), 208, none, .ld 1 false (.t 12)⟩,
    ⟨(some 5), 80, none, .mv (.t 11)⟩,
    ⟨(some 6), 96, none, .mv (.t 13)⟩])
  (.seq (.seq (.reg [⟨(some 14), 224, none, .mv (.t 6)⟩,
    ⟨(some 15), 240, none, .bi false .lss (.t 14) (.c (.int .i64 0))⟩,
    ⟨(some 16), 256, none, .mv (.t 15)⟩,
    ⟨(some 17), 272, (some (16, false)), .mv (.t 6)⟩,
    ⟨(some 18), 288, (some (16, false)), .mv (.t 1)⟩,
    ⟨(some 19), 304, (some (16, false)), .bi false .gtr (.t 17) (.t 18)⟩,
    ⟨(some 20), 320, none, .pick (.t 16) (.c (.bool true)) (.t 19)⟩])
  (.cond (.t 20) (.seq (.reg [⟨(some 4), 64, none, .mv (.c (.int .i64 1))⟩])
  .ret) .skip))
  (.seq (.reg [⟨(some 21), 336, none, .mv (.t 5)⟩,
    ⟨(some 22), 352, none, .bi false .gtr (.t 21) (.c (.int .i64 0))⟩,
    ⟨(some 23), 368, none, .mv (.t 22)⟩,
    ⟨(some 24), 384, (some (23, true)), .mv (.t 6)⟩,
    ⟨(some 25), 400, (some (23, true)), .mv (.t 0)⟩,
    ⟨(some 26), 416, (some (23, true)), .mv (.t 5)⟩,
    ⟨(some 27), 432, (some (23, true)), .bi false .sub (.t 26) (.c (.int .i64 1))⟩,
    ⟨(some 28), 448, (some (23, true)), .ia 1 (.t 25) (.t 27)⟩,
    ⟨(some 29), 464, (some (23, true)), .ld 1 false (.t 28)⟩,
    ⟨(some 30), 480, (some (23, true)), .bi false .leq (.t 24) (.t 29)⟩,
    ⟨(some 31), 496, none, .pick (.t 23) (.t 30) (.c (.bool false))⟩])
  (.cond (.t 31) (.seq (.reg [⟨(some 4), 64, none, .mv (.c (.int .i64 4))⟩])
  .ret) .skip)))))
  (.reg [⟨(some 32), 512, none, .bi false .add (.t 9) (.c (.int .i64 1))⟩,
    ⟨(some 9), 144, none, .mv (.t 32)⟩]))))
def c42 : C := (.seq (.reg [⟨(some 4), 64, none, .mv (.c (.int .i64 0))⟩])
  (.seq (.seq (.reg [⟨(some 7), 112, none, .mv (.t 0)⟩,
    ⟨(some 8), 128, none, .len (.t 7)⟩,
    ⟨(some 9), 144, none, .mv (.c (.int .i64 0))⟩])
  (.block 0 (.loop c42L1)))
  (.seq (.reg [⟨(some 4), 64, none, .mv (.c (.int .i64 0))⟩])
  .ret)))
theorem fits42 : fits Tryd.prog false Tryd.f42 2 33 [(4, none)] = some c42.er := by kernel_rfl
def c43L1 : C := (.seq (.reg [⟨(some 16), 256, none, .bi false .lss (.t 15) (.t 14)⟩])
  (.seq (.cond (.t 16) .skip (.exit 0))
  (.seq (.block 1 (.seq (.reg [⟨(some 17), 272, none, .mv (.t 15)⟩,
    ⟨(some 18), 288, none, .ia 1 (.t 13) (.t 15)⟩,
    ⟨(some 19), 304, none, .ld 1 false (.t 18)⟩,
    ⟨(some 7), 112, none, .mv (.t 17)⟩,
    ⟨(some 8), 128, none, .mv (.t 19)⟩])
  (.seq (.seq (.reg [⟨(some 20), 320, none, .mv (.t 8)⟩,
    ⟨(some 21), 336, none, .bi false .lss (.t 20) (.c (.int .i64 0))⟩,
    ⟨(some 22), 352, none, .mv (.t 21)⟩,
    ⟨(some 23), 368, (some (22, false)), .mv (.t 8)⟩,
    ⟨(some 24), 384, (some (22, false)), .bi false .gtr (.t 23) (.c (.int .i64 1073741824))⟩,
    ⟨(some 25), 400, none, .pick (.t 22) (.c (.bool true)) (.t 24)⟩])
  (.cond (.t 25) (.seq (.reg [⟨(some 6), 96, none, .mv (.c (.int .i64 1))⟩])
  .ret) .skip))
  (.seq (.reg [⟨(some 26), 416, none, .mv (.t 7)⟩,
    ⟨(some 27), 432, none, .bi false .gtr (.t 26) (.c (.int .i64 0))⟩,
    ⟨(some 28), 448, none, .mv (.t 27)⟩,
    ⟨(some 29), 464, (some (28, true)), .mv (.t 8)⟩,
    ⟨(some 30), 480, (some (28, true)), .mv (.t 0)⟩,
    ⟨(some 31), 496, (some (28, true)), .mv (.t 7)⟩,
    ⟨(some 32), 512, (some (28, true)), .bi false .sub (.t 31) (.c (.int .i64 1))⟩,
    ⟨(some 33), 528, (some (28, true)), .ia 1 (.t 30) (.t 32)⟩,
    ⟨(some 34), 544, (some (28, true)), .ld 1 false (.t 33)⟩,
    ⟨(some 35), 560, (some (28, true)), .bi false .lss (.t 29) (.t 34)⟩,
    ⟨(some 36), 576, none, .pick (.t 28) (.t 35) (.c (.bool false))⟩,
    ⟨(some 37), 592, none, .mv (.t 36)⟩,
    ⟨(some 38), 608, (some (37, false)), .mv (.t 1)⟩,
    ⟨(some 39), 624, (some (37, false)), .isn true (.t 38)⟩,
    ⟨(some 40), 640, (some (37, false)), .mv (.t 39)⟩,
    ⟨(some 41), 656, (some (40, true)), .mv (.t 8)⟩,
    ⟨(some 42), 672, (some (40, true)), .mv (.t 1)⟩,
    ⟨(some 43), 688, (some (40, true)), .mv (.t 7)⟩,
    ⟨(some 44), 704, (some (40, true)), .ia 1 (.t 42) (.t 43)⟩,
    ⟨(some 45), 720, (some (40, true)), .ld 1 false (.t 44)⟩,
    ⟨(some 46), 736, (some (40, true)), .bi false .lss (.t 41) (.t 45)⟩,
    ⟨(some 47), 752, (some (37, false)), .pick (.t 40) (.t 46) (.c (.bool false))⟩,
    ⟨(some 48), 768, none, .pick (.t 37) (.c (.bool true)) (.t 47)⟩])
  (.cond (.t 48) (.seq (.reg [⟨(some 6), 96, none, .mv (.c (.int .i64 4))⟩])
  .ret) .skip)))))
  (.reg [⟨(some 49), 784, none, .bi false .add (.t 15) (.c (.int .i64 1))⟩,
    ⟨(some 15), 240, none, .mv (.t 49)⟩]))))
def c43 : C := (.seq (.reg [⟨(some 6), 96, none, .mv (.c (.int .i64 0))⟩])
  (.seq (.seq (.reg [⟨(some 9), 144, none, .mv (.t 0)⟩,
    ⟨(some 10), 160, none, .len (.t 9)⟩,
    ⟨(some 11), 176, none, .mv (.t 2)⟩,
    ⟨(some 12), 192, none, .bi false .neq (.t 10) (.t 11)⟩])
  (.cond (.t 12) (.seq (.reg [⟨(some 6), 96, none, .mv (.c (.int .i64 3))⟩])
  .ret) .skip))
  (.seq (.seq (.reg [⟨(some 13), 208, none, .mv (.t 0)⟩,
    ⟨(some 14), 224, none, .len (.t 13)⟩,
    ⟨(some 15), 240, none, .mv (.c (.int .i64 0))⟩])
  (.block 0 (.loop c43L1)))
  (.seq (.reg [⟨(some 6), 96, none, .mv (.c (.int .i64 0))⟩])
  .ret))))
theorem fits43 : fits Tryd.prog false Tryd.f43 3 50 [(6, none)] = some c43.er := by kernel_rfl
def c22L1 : C := (.seq (.reg [⟨(some 20), 320, none, .bi false .lss (.t 19) (.t 18)⟩])
  (.seq (.cond (.t 20) .skip (.exit 0))
  (.seq (.block 1 (.seq (.reg [⟨(some 21), 336, none, .ia 1 (.t 17) (.t 19)⟩,
    ⟨(some 22), 352, none, .ld 1 false (.t 21)⟩,
    ⟨(some 4), 64, none, .mv (.t 22)⟩])
  (.seq (.reg [⟨(some 23), 368, none, .mv (.t 4)⟩,
    ⟨(some 24), 384, none, .bi false .lss (.t 23) (.c (.int .i64 1))⟩,
    ⟨(some 25), 400, none, .mv (.t 24)⟩,
    ⟨(some 26), 416, (some (25, false)), .mv (.t 4)⟩,
    ⟨(some 27), 432, (some (25, false)), .bi false .gtr (.t 26) (.c (.int .i64 20))⟩,
    ⟨(some 28), 448, none, .pick (.t 25) (.c (.bool true)) (.t 27)⟩])
  (.cond (.t 28) (.seq (.reg [⟨(some 2), 32, none, .mv (.c (.int .i64 42))⟩])
  .ret) .skip))))
  (.reg [⟨(some 29), 464, none, .bi false .add (.t 19) (.c (.int .i64 1))⟩,
    ⟨(some 19), 304, none, .mv (.t 29)⟩]))))
def c22L2 : C := (.seq (.reg [⟨(some 53), 848, none, .bi false .lss (.t 52) (.t 51)⟩])
  (.seq (.cond (.t 53) .skip (.exit 2))
  (.seq (.block 3 (.seq (.reg [⟨(some 54), 864, none, .ia 1 (.t 50) (.t 52)⟩,
    ⟨(some 55), 880, none, .ld 1 false (.t 54)⟩,
    ⟨(some 9), 144, none, .mv (.t 55)⟩])
  (.seq (.seq (.reg [⟨(some 56), 896, none, .mv (.t 9)⟩,
    ⟨(some 57), 912, none, .mv (.t 7)⟩,
    ⟨(some 58), 928, none, .fa 1 (.t 1)⟩,
    ⟨(some 59), 944, none, .ld 1 false (.t 58)⟩,
    ⟨(some 60), 960, none, .len (.t 59)⟩,
    ⟨(some 61), 976, none, .call (.c (.fn (.func 43) [] [])) [(.t 56), (.t 57), (.t 60)]⟩,
    ⟨(some 10), 160, none, .mv (.t 61)⟩])
  (.seq (.reg [⟨(some 62), 992, none, .mv (.t 10)⟩,
    ⟨(some 63), 1008, none, .bi false .neq (.t 62) (.c (.int .i64 0))⟩])
  (.cond (.t 63) (.seq (.reg [⟨(some 64), 1024, none, .mv (.t 10)⟩,
    ⟨(some 2), 32, none, .mv (.t 64)⟩])
  .ret) .skip)))
  (.reg [⟨(some 65), 1040, none, .mv (.t 9)⟩,
    ⟨(some 7), 112, none, .mv (.t 65)⟩]))))
  (.reg [⟨(some 66), 1056, none, .bi false .add (.t 52) (.c (.int .i64 1))⟩,
    ⟨(some 52), 832, none, .mv (.t 66)⟩]))))
def c22 : C := (.seq (.reg [⟨(some 1), 16, none, .bx 3 (.t 0)⟩,
    ⟨(some 2), 32, none, .mv (.c (.int .i64 0))⟩])
  (.seq (.seq (.reg [⟨(some 11), 176, none, .fa 0 (.t 1)⟩,
    ⟨(some 12), 192, none, .ld 1 false (.t 11)⟩,
    ⟨(some 13), 208, none, .len (.t 12)⟩,
    ⟨(some 14), 224, none, .fa 1 (.t 1)⟩,
    ⟨(some 15), 240, none, .ld 1 false (.t 14)⟩,
    ⟨(some 16), 256, none, .len (.t 15)⟩,
    ⟨(some 17), 272, none, .bs 3 1 [(.t 13), (.t 16)]⟩,
    ⟨(some 18), 288, none, .len (.t 17)⟩,
    ⟨(some 19), 304, none, .mv (.c (.int .i64 0))⟩])
  (.block 0 (.loop c22L1)))
  (.seq (.seq (.reg [⟨(some 30), 480, none, .fa 0 (.t 1)⟩,
    ⟨(some 31), 496, none, .ld 1 false (.t 30)⟩,
    ⟨(some 32), 512, none, .call (.c (.fn (.func 42) [] [])) [(.t 31), (.c (.int .i64 16777216))]⟩,
    ⟨(some 5), 80, none, .mv (.t 32)⟩])
  (.seq (.reg [⟨(some 33), 528, none, .mv (.t 5)⟩,
    ⟨(some 34), 544, none, .bi false .neq (.t 33) (.c (.int .i64 0))⟩])
  (.cond (.t 34) (.seq (.reg [⟨(some 35), 560, none, .mv (.t 5)⟩,
    ⟨(some 2), 32, none, .mv (.t 35)⟩])
  .ret) .skip)))
  (.seq (.seq (.reg [⟨(some 36), 576, none, .fa 1 (.t 1)⟩,
    ⟨(some 37), 592, none, .ld 1 false (.t 36)⟩,
    ⟨(some 38), 608, none, .call (.c (.fn (.func 42) [] [])) [(.t 37), (.c (.int .i64 1073741824))]⟩,
    ⟨(some 6), 96, none, .mv (.t 38)⟩])
  (.seq (.reg [⟨(some 39), 624, none, .mv (.t 6)⟩,
    ⟨(some 40), 640, none, .bi false .neq (.t 39) (.c (.int .i64 0))⟩])
  (.cond (.t 40) (.seq (.reg [⟨(some 41), 656, none, .mv (.t 6)⟩,
    ⟨(some 2), 32, none, .mv (.t 41)⟩])
  .ret) .skip)))
  (.seq (.seq (.reg [⟨(some 42), 672, none, .fa 2 (.t 1)⟩,
    ⟨(some 43), 688, none, .ld 1 false (.t 42)⟩,
    ⟨(some 44), 704, none, .len (.t 43)⟩,
    ⟨(some 45), 720, none, .fa 0 (.t 1)⟩,
    ⟨(some 46), 736, none, .ld 1 false (.t 45)⟩,
    ⟨(some 47), 752, none, .len (.t 46)⟩,
    ⟨(some 48), 768, none, .bi false .neq (.t 44) (.t 47)⟩])
  (.cond (.t 48) (.seq (.reg [⟨(some 2), 32, none, .mv (.c (.int .i64 3))⟩])
  .ret) .skip))
  (.seq (.reg [⟨(some 7), 112, none, .mv (.c (.nil 1))⟩])
  (.seq (.seq (.reg [⟨(some 49), 784, none, .fa 2 (.t 1)⟩,
    ⟨(some 50), 800, none, .ld 1 false (.t 49)⟩,
    ⟨(some 51), 816, none, .len (.t 50)⟩,
    ⟨(some 52), 832, none, .mv (.c (.int .i64 0))⟩])
  (.block 2 (.loop c22L2)))
  (.seq (.reg [⟨(some 2), 32, none, .mv (.c (.int .i64 0))⟩])
  .ret))))))))
theorem fits22 : fits Tryd.prog false Tryd.f22 1 67 [(2, none)] = some c22.er := by kernel_rfl

theorem call9 (τ : Nat) (l : List Int) : PureCall Tryd.prog 9 [.sl τ 1 l.length (fl eInt l)] [] ⟨.bool (decide (l.length ≤ 500)), [], []⟩ := by
  refine pure_call mix Tryd.func9 fits9 rfl ?_
  conv => whnf
  refine ⟨?_, [], ?_⟩
  · (try conv => whnf)
    (repeat' (first | exact True.intro | exact fun _ h => h | refine inR64_of ?_ ?_ | apply And.intro | refine maxLen_ge ?_)) <;> (first | omega | (dsimp only; omega) | (dsimp only [List.length_cons, List.length_nil]; omega) | (intro hg; rw [hg]; rfl) | (intro hg hh; rw [hg, hh]; rfl) | (intro hg; simp [-List.getD_eq_getElem?_getD, -Int.default_eq_zero] at hg; first | omega | (refine inR64_of ?_ ?_ <;> omega) | (constructor <;> omega)) | (simp [-List.getD_eq_getElem?_getD, -Int.default_eq_zero]; done))
  conv => whnf
  refine ⟨rfl, ?_, trivial, trivial⟩
  all_goals repeat' (first | exact True.intro | refine leF_cons rfl ?_ ?_ | refine leS_cons rfl ?_ ?_ | (show PLe _ _ _ _; conv => whnf) | (show SLe _ _ _ _; conv => whnf) | (show PLeL _ _ _ _; conv => whnf) | apply And.intro | rfl | exact Nat.le_refl _ | exact fun _ _ => rfl | exact rowEq0 _ _)
  simp
  omega

/-- The first error of numbers that ascend strictly from 0 to most. -/
def riseE (l : List Int) (most : Int) (i : Nat) : Int :=
  if l.getD i default < 0 ∨ most < l.getD i default then 1 else if 0 < i ∧ l.getD i default ≤ l.getD (i - 1) default then 4 else 0
set_option maxRecDepth 100000 in
set_option maxHeartbeats 4000000 in
theorem call42 (τ : Nat) (l : List Int) (most : Int) (hl : l.length ≤ 4611686018427387904) : PureCall Tryd.prog 42 [.sl τ 1 l.length (fl eInt l), .int .i64 most] [] ⟨.int .i64 (scan (riseE l most) 0 l.length), [], []⟩ := by
  refine pure_call mix Tryd.func42 fits42 rfl ?_
  conv => whnf
  refine ⟨trivial, ?_⟩
  refine LSem.loop (n := 33) mix (α := Nat) (fun i => i ≤ l.length ∧ scan (riseE l most) i (l.length - i) = scan (riseE l most) 0 l.length)
    (fun i => [(0, .sl τ 1 l.length (fl eInt l)), (1, .int .i64 most), (7, .sl τ 1 l.length (fl eInt l)), (8, .int .i64 l.length), (9, .int .i64 i)])
    (fun i => []) (fun i => l.length - i) 0 ?_ ?_ ?_
  · exact ⟨Nat.zero_le _, rfl⟩
  · refine ⟨rfl, rfl, ?_, ?_⟩
    all_goals repeat' (first | exact True.intro | refine leF_cons rfl ?_ ?_ | refine leS_cons rfl ?_ ?_ | (show PLe _ _ _ _; conv => whnf) | (show SLe _ _ _ _; conv => whnf) | (show PLeL _ _ _ _; conv => whnf) | apply And.intro | rfl | exact Nat.le_refl _ | exact fun _ _ => rfl | exact rowEq0 _ _)
  · intro i hi
    obtain ⟨hi, hs⟩ := hi
    have hj : ((i : Int)).toNat = i := by omega
    have hj1 : ((i : Int) - 1).toNat = i - 1 := by omega
    conv => whnf
    refine ⟨trivial, fun hc => ?_, fun hc => ?_⟩
    · replace hc := of_decide_eq_true hc
      have hlt : i < l.length := by omega
      conv => whnf
      refine ⟨?_, fun h1 => ?_, fun h1 => ?_⟩
      · (try conv => whnf)
        (repeat' (first | exact True.intro | exact fun _ h => h | refine inR64_of ?_ ?_ | apply And.intro | refine maxLen_ge ?_)) <;> (first | omega | (dsimp only; omega) | (dsimp only [List.length_cons, List.length_nil]; omega) | (intro hg; rw [hg]; rfl) | (intro hg hh; rw [hg, hh]; rfl) | (intro hg; simp [-List.getD_eq_getElem?_getD, -Int.default_eq_zero] at hg; first | omega | (refine inR64_of ?_ ?_ <;> omega) | (constructor <;> omega)) | (simp [-List.getD_eq_getElem?_getD, -Int.default_eq_zero]; done))
      · simp only [bif_t, bif_f, decide_eq_true_eq, decide_eq_false_iff_not, Bool.not_eq_true', Bool.not_eq_false', Bool.and_eq_true, Bool.or_eq_true, Bool.and_eq_false_iff, Bool.or_eq_false_iff, beq_iff_eq, bne_iff_ne, beq_eq_false_iff_ne, bne_eq_false_iff_eq, reduceCtorEq, false_and, and_false, true_and, and_true, or_false, false_or, or_true, true_or, not_true_eq_false, not_false_eq_true, Int.toNat_zero] at h1
        rw [hj] at h1
        have hE : riseE l most i = 1 := by unfold riseE; rw [if_pos (by omega)]
        have hh : scan (riseE l most) 0 l.length = 1 := by rw [← hs, ← hE]; exact scan_hit (show 0 < l.length - i by omega) (by rw [hE]; decide)
        rw [hh]
        conv => whnf
        refine ⟨?_, [], ?_⟩
        · (try conv => whnf)
          (repeat' (first | exact True.intro | exact fun _ h => h | refine inR64_of ?_ ?_ | apply And.intro | refine maxLen_ge ?_)) <;> (first | omega | (dsimp only; omega) | (dsimp only [List.length_cons, List.length_nil]; omega) | (intro hg; rw [hg]; rfl) | (intro hg hh; rw [hg, hh]; rfl) | (intro hg; simp [-List.getD_eq_getElem?_getD, -Int.default_eq_zero] at hg; first | omega | (refine inR64_of ?_ ?_ <;> omega) | (constructor <;> omega)) | (simp [-List.getD_eq_getElem?_getD, -Int.default_eq_zero]; done))
        conv => whnf
        refine ⟨rfl, ?_, trivial, trivial⟩
        all_goals repeat' (first | exact True.intro | refine leF_cons rfl ?_ ?_ | refine leS_cons rfl ?_ ?_ | (show PLe _ _ _ _; conv => whnf) | (show SLe _ _ _ _; conv => whnf) | (show PLeL _ _ _ _; conv => whnf) | apply And.intro | rfl | exact Nat.le_refl _ | exact fun _ _ => rfl | exact rowEq0 _ _)
      · simp only [bif_t, bif_f, decide_eq_true_eq, decide_eq_false_iff_not, Bool.not_eq_true', Bool.not_eq_false', Bool.and_eq_true, Bool.or_eq_true, Bool.and_eq_false_iff, Bool.or_eq_false_iff, beq_iff_eq, bne_iff_ne, beq_eq_false_iff_ne, bne_eq_false_iff_eq, reduceCtorEq, false_and, and_false, true_and, and_true, or_false, false_or, or_true, true_or, not_true_eq_false, not_false_eq_true, Int.toNat_zero] at h1
        rw [hj] at h1
        conv => whnf
        refine ⟨?_, fun h2 => ?_, fun h2 => ?_⟩
        · (try conv => whnf)
          (repeat' (first | exact True.intro | exact fun _ h => h | refine inR64_of ?_ ?_ | apply And.intro | refine maxLen_ge ?_)) <;> (first | omega | (dsimp only; omega) | (dsimp only [List.length_cons, List.length_nil]; omega) | (intro hg; rw [hg]; rfl) | (intro hg hh; rw [hg, hh]; rfl) | (intro hg; simp [-List.getD_eq_getElem?_getD, -Int.default_eq_zero] at hg; first | omega | (refine inR64_of ?_ ?_ <;> omega) | (constructor <;> omega)) | (simp [-List.getD_eq_getElem?_getD, -Int.default_eq_zero]; done))
        · simp only [bif_t, bif_f, decide_eq_true_eq, decide_eq_false_iff_not, Bool.not_eq_true', Bool.not_eq_false', Bool.and_eq_true, Bool.or_eq_true, Bool.and_eq_false_iff, Bool.or_eq_false_iff, beq_iff_eq, bne_iff_ne, beq_eq_false_iff_ne, bne_eq_false_iff_eq, reduceCtorEq, false_and, and_false, true_and, and_true, or_false, false_or, or_true, true_or, not_true_eq_false, not_false_eq_true, Int.toNat_zero] at h2
          rw [hj, hj1] at h2
          have hE : riseE l most i = 4 := by unfold riseE; rw [if_neg (by omega), if_pos (by omega)]
          have hh : scan (riseE l most) 0 l.length = 4 := by rw [← hs, ← hE]; exact scan_hit (show 0 < l.length - i by omega) (by rw [hE]; decide)
          rw [hh]
          conv => whnf
          refine ⟨?_, [], ?_⟩
          · (try conv => whnf)
            (repeat' (first | exact True.intro | exact fun _ h => h | refine inR64_of ?_ ?_ | apply And.intro | refine maxLen_ge ?_)) <;> (first | omega | (dsimp only; omega) | (dsimp only [List.length_cons, List.length_nil]; omega) | (intro hg; rw [hg]; rfl) | (intro hg hh; rw [hg, hh]; rfl) | (intro hg; simp [-List.getD_eq_getElem?_getD, -Int.default_eq_zero] at hg; first | omega | (refine inR64_of ?_ ?_ <;> omega) | (constructor <;> omega)) | (simp [-List.getD_eq_getElem?_getD, -Int.default_eq_zero]; done))
          conv => whnf
          refine ⟨rfl, ?_, trivial, trivial⟩
          all_goals repeat' (first | exact True.intro | refine leF_cons rfl ?_ ?_ | refine leS_cons rfl ?_ ?_ | (show PLe _ _ _ _; conv => whnf) | (show SLe _ _ _ _; conv => whnf) | (show PLeL _ _ _ _; conv => whnf) | apply And.intro | rfl | exact Nat.le_refl _ | exact fun _ _ => rfl | exact rowEq0 _ _)
        · simp only [bif_t, bif_f, decide_eq_true_eq, decide_eq_false_iff_not, Bool.not_eq_true', Bool.not_eq_false', Bool.and_eq_true, Bool.or_eq_true, Bool.and_eq_false_iff, Bool.or_eq_false_iff, beq_iff_eq, bne_iff_ne, beq_eq_false_iff_ne, bne_eq_false_iff_eq, reduceCtorEq, false_and, and_false, true_and, and_true, or_false, false_or, or_true, true_or, not_true_eq_false, not_false_eq_true, Int.toNat_zero] at h2
          rw [hj, hj1] at h2
          have hE : riseE l most i = 0 := by unfold riseE; rw [if_neg (by omega), if_neg (by omega)]
          have hh : scan (riseE l most) (i + 1) (l.length - (i + 1)) = scan (riseE l most) 0 l.length := by rw [← hs, scan_step (show 0 < l.length - i by omega) hE]; congr 1
          conv => whnf
          refine ⟨?_, i + 1, ⟨by omega, hh⟩, ?_, rfl, rfl, ?_, ?_⟩
          · (try conv => whnf)
            (repeat' (first | exact True.intro | exact fun _ h => h | refine inR64_of ?_ ?_ | apply And.intro | refine maxLen_ge ?_)) <;> (first | omega | (dsimp only; omega) | (dsimp only [List.length_cons, List.length_nil]; omega) | (intro hg; rw [hg]; rfl) | (intro hg hh; rw [hg, hh]; rfl) | (intro hg; simp [-List.getD_eq_getElem?_getD, -Int.default_eq_zero] at hg; first | omega | (refine inR64_of ?_ ?_ <;> omega) | (constructor <;> omega)) | (simp [-List.getD_eq_getElem?_getD, -Int.default_eq_zero]; done))
          · omega
          all_goals repeat' (first | exact True.intro | refine leF_cons rfl ?_ ?_ | refine leS_cons rfl ?_ ?_ | (show PLe _ _ _ _; conv => whnf) | (show SLe _ _ _ _; conv => whnf) | (show PLeL _ _ _ _; conv => whnf) | apply And.intro | rfl | exact Nat.le_refl _ | exact fun _ _ => rfl | exact rowEq0 _ _)
          all_goals omega
    · replace hc := of_decide_eq_false hc
      have : i = l.length := by omega
      subst this
      rw [← hs, Nat.sub_self]
      conv => whnf
      refine ⟨?_, [], ?_⟩
      · (try conv => whnf)
        (repeat' (first | exact True.intro | exact fun _ h => h | refine inR64_of ?_ ?_ | apply And.intro | refine maxLen_ge ?_)) <;> (first | omega | (dsimp only; omega) | (dsimp only [List.length_cons, List.length_nil]; omega) | (intro hg; rw [hg]; rfl) | (intro hg hh; rw [hg, hh]; rfl) | (intro hg; simp [-List.getD_eq_getElem?_getD, -Int.default_eq_zero] at hg; first | omega | (refine inR64_of ?_ ?_ <;> omega) | (constructor <;> omega)) | (simp [-List.getD_eq_getElem?_getD, -Int.default_eq_zero]; done))
      conv => whnf
      refine ⟨rfl, ?_, trivial, trivial⟩
      all_goals repeat' (first | exact True.intro | refine leF_cons rfl ?_ ?_ | refine leS_cons rfl ?_ ?_ | (show PLe _ _ _ _; conv => whnf) | (show SLe _ _ _ _; conv => whnf) | (show PLeL _ _ _ _; conv => whnf) | apply And.intro | rfl | exact Nat.le_refl _ | exact fun _ _ => rfl | exact rowEq0 _ _)

/-- The first error of a list of releases; 'ab': the list before it. -/
def under (l : List Int) (ab : Option (List Int)) (i : Nat) : Bool := match ab with
  | none => false
  | some a => decide (l.getD i default < a.getD i default)
def rowE (l : List Int) (ab : Option (List Int)) (i : Nat) : Int :=
  if l.getD i default < 0 ∨ 1073741824 < l.getD i default then 1 else if (0 < i ∧ l.getD i default < l.getD (i - 1) default) ∨ under l ab i = true then 4 else 0
def rowF (l : List Int) (ab : Option (List Int)) (n : Int) : Int := if (l.length : Int) ≠ n then 3 else scan (rowE l ab) 0 l.length

set_option maxRecDepth 100000 in
set_option maxHeartbeats 8000000 in
theorem call43n (τ : Nat) (l : List Int) (n : Int) (hl : l.length ≤ 4611686018427387904) : PureCall Tryd.prog 43 [.sl τ 1 l.length (fl eInt l), .nil 1, .int .i64 n] [] ⟨.int .i64 (rowF l none n), [], []⟩ := by
  refine pure_call mix Tryd.func43 fits43 rfl ?_
  conv => whnf
  refine ⟨trivial, fun hc => ?_, fun hc => ?_⟩
  · simp only [bif_t, bif_f, decide_eq_true_eq, decide_eq_false_iff_not, Bool.not_eq_true', Bool.not_eq_false', Bool.and_eq_true, Bool.or_eq_true, Bool.and_eq_false_iff, Bool.or_eq_false_iff, beq_iff_eq, bne_iff_ne, beq_eq_false_iff_ne, bne_eq_false_iff_eq, reduceCtorEq, false_and, and_false, true_and, and_true, or_false, false_or, or_true, true_or, not_true_eq_false, not_false_eq_true, Int.toNat_zero] at hc
    rw [show rowF l none n = 3 by unfold rowF; rw [if_pos (by omega)]]
    conv => whnf
    refine ⟨?_, [], ?_⟩
    · (try conv => whnf)
      (repeat' (first | exact True.intro | exact fun _ h => h | refine inR64_of ?_ ?_ | apply And.intro | refine maxLen_ge ?_)) <;> (first | omega | (dsimp only; omega) | (dsimp only [List.length_cons, List.length_nil]; omega) | (intro hg; rw [hg]; rfl) | (intro hg hh; rw [hg, hh]; rfl) | (intro hg; simp [-List.getD_eq_getElem?_getD, -Int.default_eq_zero] at hg; first | omega | (refine inR64_of ?_ ?_ <;> omega) | (constructor <;> omega)) | (simp [-List.getD_eq_getElem?_getD, -Int.default_eq_zero]; done))
    conv => whnf
    refine ⟨rfl, ?_, trivial, trivial⟩
    all_goals repeat' (first | exact True.intro | refine leF_cons rfl ?_ ?_ | refine leS_cons rfl ?_ ?_ | (show PLe _ _ _ _; conv => whnf) | (show SLe _ _ _ _; conv => whnf) | (show PLeL _ _ _ _; conv => whnf) | apply And.intro | rfl | exact Nat.le_refl _ | exact fun _ _ => rfl | exact rowEq0 _ _)
  simp only [bif_t, bif_f, decide_eq_true_eq, decide_eq_false_iff_not, Bool.not_eq_true', Bool.not_eq_false', Bool.and_eq_true, Bool.or_eq_true, Bool.and_eq_false_iff, Bool.or_eq_false_iff, beq_iff_eq, bne_iff_ne, beq_eq_false_iff_ne, bne_eq_false_iff_eq, reduceCtorEq, false_and, and_false, true_and, and_true, or_false, false_or, or_true, true_or, not_true_eq_false, not_false_eq_true, Int.toNat_zero] at hc
  have hln : (l.length : Int) = n := by omega
  rw [show rowF l none n = scan (rowE l none) 0 l.length by unfold rowF; rw [if_neg (by omega)]]
  conv => whnf
  refine ⟨trivial, ?_⟩
  refine LSem.loop (n := 50) mix (α := Nat) (fun i => i ≤ l.length ∧ scan (rowE l none) i (l.length - i) = scan (rowE l none) 0 l.length)
    (fun i => [(0, .sl τ 1 l.length (fl eInt l)), (1, .nil 1), (13, .sl τ 1 l.length (fl eInt l)), (14, .int .i64 l.length), (15, .int .i64 i)])
    (fun i => []) (fun i => l.length - i) 0 ?_ ?_ ?_
  · exact ⟨Nat.zero_le _, rfl⟩
  · refine ⟨rfl, rfl, ?_, ?_⟩
    all_goals repeat' (first | exact True.intro | refine leF_cons rfl ?_ ?_ | refine leS_cons rfl ?_ ?_ | (show PLe _ _ _ _; conv => whnf) | (show SLe _ _ _ _; conv => whnf) | (show PLeL _ _ _ _; conv => whnf) | apply And.intro | rfl | exact Nat.le_refl _ | exact fun _ _ => rfl | exact rowEq0 _ _)
  · intro i hi
    obtain ⟨hi, hs⟩ := hi
    have hj : ((i : Int)).toNat = i := by omega
    have hj1 : ((i : Int) - 1).toNat = i - 1 := by omega
    conv => whnf
    refine ⟨trivial, fun hc => ?_, fun hc => ?_⟩
    · replace hc := of_decide_eq_true hc
      have hlt : i < l.length := by omega
      conv => whnf
      refine ⟨?_, fun h1 => ?_, fun h1 => ?_⟩
      · (try conv => whnf)
        (repeat' (first | exact True.intro | exact fun _ h => h | refine inR64_of ?_ ?_ | apply And.intro | refine maxLen_ge ?_)) <;> (first | omega | (dsimp only; omega) | (dsimp only [List.length_cons, List.length_nil]; omega) | (intro hg; rw [hg]; rfl) | (intro hg hh; rw [hg, hh]; rfl) | (intro hg; simp [-List.getD_eq_getElem?_getD, -Int.default_eq_zero] at hg; first | omega | (refine inR64_of ?_ ?_ <;> omega) | (constructor <;> omega)) | (simp [-List.getD_eq_getElem?_getD, -Int.default_eq_zero]; done))
      · simp only [bif_t, bif_f, decide_eq_true_eq, decide_eq_false_iff_not, Bool.not_eq_true', Bool.not_eq_false', Bool.and_eq_true, Bool.or_eq_true, Bool.and_eq_false_iff, Bool.or_eq_false_iff, beq_iff_eq, bne_iff_ne, beq_eq_false_iff_ne, bne_eq_false_iff_eq, reduceCtorEq, false_and, and_false, true_and, and_true, or_false, false_or, or_true, true_or, not_true_eq_false, not_false_eq_true, Int.toNat_zero] at h1
        rw [hj] at h1
        have hE : rowE l none i = 1 := by unfold rowE; rw [if_pos (by omega)]
        have hh : scan (rowE l none) 0 l.length = 1 := by rw [← hs, ← hE]; exact scan_hit (show 0 < l.length - i by omega) (by rw [hE]; decide)
        rw [hh]
        conv => whnf
        refine ⟨?_, [], ?_⟩
        · (try conv => whnf)
          (repeat' (first | exact True.intro | exact fun _ h => h | refine inR64_of ?_ ?_ | apply And.intro | refine maxLen_ge ?_)) <;> (first | omega | (dsimp only; omega) | (dsimp only [List.length_cons, List.length_nil]; omega) | (intro hg; rw [hg]; rfl) | (intro hg hh; rw [hg, hh]; rfl) | (intro hg; simp [-List.getD_eq_getElem?_getD, -Int.default_eq_zero] at hg; first | omega | (refine inR64_of ?_ ?_ <;> omega) | (constructor <;> omega)) | (simp [-List.getD_eq_getElem?_getD, -Int.default_eq_zero]; done))
        conv => whnf
        refine ⟨rfl, ?_, trivial, trivial⟩
        all_goals repeat' (first | exact True.intro | refine leF_cons rfl ?_ ?_ | refine leS_cons rfl ?_ ?_ | (show PLe _ _ _ _; conv => whnf) | (show SLe _ _ _ _; conv => whnf) | (show PLeL _ _ _ _; conv => whnf) | apply And.intro | rfl | exact Nat.le_refl _ | exact fun _ _ => rfl | exact rowEq0 _ _)
      · simp only [bif_t, bif_f, decide_eq_true_eq, decide_eq_false_iff_not, Bool.not_eq_true', Bool.not_eq_false', Bool.and_eq_true, Bool.or_eq_true, Bool.and_eq_false_iff, Bool.or_eq_false_iff, beq_iff_eq, bne_iff_ne, beq_eq_false_iff_ne, bne_eq_false_iff_eq, reduceCtorEq, false_and, and_false, true_and, and_true, or_false, false_or, or_true, true_or, not_true_eq_false, not_false_eq_true, Int.toNat_zero] at h1
        rw [hj] at h1
        conv => whnf
        refine ⟨?_, fun h2 => ?_, fun h2 => ?_⟩
        · (try conv => whnf)
          (repeat' (first | exact True.intro | exact fun _ h => h | refine inR64_of ?_ ?_ | apply And.intro | refine maxLen_ge ?_)) <;> (first | omega | (dsimp only; omega) | (dsimp only [List.length_cons, List.length_nil]; omega) | (intro hg; rw [hg]; rfl) | (intro hg hh; rw [hg, hh]; rfl) | (intro hg; simp [-List.getD_eq_getElem?_getD, -Int.default_eq_zero] at hg; first | omega | (refine inR64_of ?_ ?_ <;> omega) | (constructor <;> omega)) | (simp [-List.getD_eq_getElem?_getD, -Int.default_eq_zero]; done))
        · simp only [bif_t, bif_f, decide_eq_true_eq, decide_eq_false_iff_not, Bool.not_eq_true', Bool.not_eq_false', Bool.and_eq_true, Bool.or_eq_true, Bool.and_eq_false_iff, Bool.or_eq_false_iff, beq_iff_eq, bne_iff_ne, beq_eq_false_iff_ne, bne_eq_false_iff_eq, reduceCtorEq, false_and, and_false, true_and, and_true, or_false, false_or, or_true, true_or, not_true_eq_false, not_false_eq_true, Int.toNat_zero] at h2
          rw [hj, hj1] at h2
          have hE : rowE l none i = 4 := by
            unfold rowE
            rw [if_neg (by omega), if_pos]
            exact .inl ⟨by omega, h2.2⟩
          have hh : scan (rowE l none) 0 l.length = 4 := by rw [← hs, ← hE]; exact scan_hit (show 0 < l.length - i by omega) (by rw [hE]; decide)
          rw [hh]
          conv => whnf
          refine ⟨?_, [], ?_⟩
          · (try conv => whnf)
            (repeat' (first | exact True.intro | exact fun _ h => h | refine inR64_of ?_ ?_ | apply And.intro | refine maxLen_ge ?_)) <;> (first | omega | (dsimp only; omega) | (dsimp only [List.length_cons, List.length_nil]; omega) | (intro hg; rw [hg]; rfl) | (intro hg hh; rw [hg, hh]; rfl) | (intro hg; simp [-List.getD_eq_getElem?_getD, -Int.default_eq_zero] at hg; first | omega | (refine inR64_of ?_ ?_ <;> omega) | (constructor <;> omega)) | (simp [-List.getD_eq_getElem?_getD, -Int.default_eq_zero]; done))
          conv => whnf
          refine ⟨rfl, ?_, trivial, trivial⟩
          all_goals repeat' (first | exact True.intro | refine leF_cons rfl ?_ ?_ | refine leS_cons rfl ?_ ?_ | (show PLe _ _ _ _; conv => whnf) | (show SLe _ _ _ _; conv => whnf) | (show PLeL _ _ _ _; conv => whnf) | apply And.intro | rfl | exact Nat.le_refl _ | exact fun _ _ => rfl | exact rowEq0 _ _)
        · simp only [bif_t, bif_f, decide_eq_true_eq, decide_eq_false_iff_not, Bool.not_eq_true', Bool.not_eq_false', Bool.and_eq_true, Bool.or_eq_true, Bool.and_eq_false_iff, Bool.or_eq_false_iff, beq_iff_eq, bne_iff_ne, beq_eq_false_iff_ne, bne_eq_false_iff_eq, reduceCtorEq, false_and, and_false, true_and, and_true, or_false, false_or, or_true, true_or, not_true_eq_false, not_false_eq_true, Int.toNat_zero] at h2
          rw [hj, hj1] at h2
          have hE : rowE l none i = 0 := by
            unfold rowE
            rw [if_neg (by omega), if_neg]
            rintro (h3 | h3)
            · obtain ⟨h4, h5⟩ := h3
              rcases h2 with h6 | h6
              · exact h6.2 h5
              · exact h6 (by omega)
            · cases h3
          have hh : scan (rowE l none) (i + 1) (l.length - (i + 1)) = scan (rowE l none) 0 l.length := by rw [← hs, scan_step (show 0 < l.length - i by omega) hE]; congr 1
          conv => whnf
          refine ⟨?_, i + 1, ⟨by omega, hh⟩, ?_, rfl, rfl, ?_, ?_⟩
          · (try conv => whnf)
            (repeat' (first | exact True.intro | exact fun _ h => h | refine inR64_of ?_ ?_ | apply And.intro | refine maxLen_ge ?_)) <;> (first | omega | (dsimp only; omega) | (dsimp only [List.length_cons, List.length_nil]; omega) | (intro hg; rw [hg]; rfl) | (intro hg hh; rw [hg, hh]; rfl) | (intro hg; simp [-List.getD_eq_getElem?_getD, -Int.default_eq_zero] at hg; first | omega | (refine inR64_of ?_ ?_ <;> omega) | (constructor <;> omega)) | (simp [-List.getD_eq_getElem?_getD, -Int.default_eq_zero]; done))
          · omega
          all_goals repeat' (first | exact True.intro | refine leF_cons rfl ?_ ?_ | refine leS_cons rfl ?_ ?_ | (show PLe _ _ _ _; conv => whnf) | (show SLe _ _ _ _; conv => whnf) | (show PLeL _ _ _ _; conv => whnf) | apply And.intro | rfl | exact Nat.le_refl _ | exact fun _ _ => rfl | exact rowEq0 _ _)
          all_goals omega
    · replace hc := of_decide_eq_false hc
      have : i = l.length := by omega
      subst this
      rw [← hs, Nat.sub_self]
      conv => whnf
      refine ⟨?_, [], ?_⟩
      · (try conv => whnf)
        (repeat' (first | exact True.intro | exact fun _ h => h | refine inR64_of ?_ ?_ | apply And.intro | refine maxLen_ge ?_)) <;> (first | omega | (dsimp only; omega) | (dsimp only [List.length_cons, List.length_nil]; omega) | (intro hg; rw [hg]; rfl) | (intro hg hh; rw [hg, hh]; rfl) | (intro hg; simp [-List.getD_eq_getElem?_getD, -Int.default_eq_zero] at hg; first | omega | (refine inR64_of ?_ ?_ <;> omega) | (constructor <;> omega)) | (simp [-List.getD_eq_getElem?_getD, -Int.default_eq_zero]; done))
      conv => whnf
      refine ⟨rfl, ?_, trivial, trivial⟩
      all_goals repeat' (first | exact True.intro | refine leF_cons rfl ?_ ?_ | refine leS_cons rfl ?_ ?_ | (show PLe _ _ _ _; conv => whnf) | (show SLe _ _ _ _; conv => whnf) | (show PLeL _ _ _ _; conv => whnf) | apply And.intro | rfl | exact Nat.le_refl _ | exact fun _ _ => rfl | exact rowEq0 _ _)

set_option maxRecDepth 100000 in
set_option maxHeartbeats 8000000 in
theorem call43s (τ τ' : Nat) (l : List Int) (ab : List Int) (n : Int) (hl : l.length ≤ 4611686018427387904) (hab : (ab.length : Int) = n) : PureCall Tryd.prog 43 [.sl τ 1 l.length (fl eInt l), .sl τ' 1 ab.length (fl eInt ab), .int .i64 n] [] ⟨.int .i64 (rowF l (some ab) n), [], []⟩ := by
  refine pure_call mix Tryd.func43 fits43 rfl ?_
  conv => whnf
  refine ⟨trivial, fun hc => ?_, fun hc => ?_⟩
  · simp only [bif_t, bif_f, decide_eq_true_eq, decide_eq_false_iff_not, Bool.not_eq_true', Bool.not_eq_false', Bool.and_eq_true, Bool.or_eq_true, Bool.and_eq_false_iff, Bool.or_eq_false_iff, beq_iff_eq, bne_iff_ne, beq_eq_false_iff_ne, bne_eq_false_iff_eq, reduceCtorEq, false_and, and_false, true_and, and_true, or_false, false_or, or_true, true_or, not_true_eq_false, not_false_eq_true, Int.toNat_zero] at hc
    rw [show rowF l (some ab) n = 3 by unfold rowF; rw [if_pos (by omega)]]
    conv => whnf
    refine ⟨?_, [], ?_⟩
    · (try conv => whnf)
      (repeat' (first | exact True.intro | exact fun _ h => h | refine inR64_of ?_ ?_ | apply And.intro | refine maxLen_ge ?_)) <;> (first | omega | (dsimp only; omega) | (dsimp only [List.length_cons, List.length_nil]; omega) | (intro hg; rw [hg]; rfl) | (intro hg hh; rw [hg, hh]; rfl) | (intro hg; simp [-List.getD_eq_getElem?_getD, -Int.default_eq_zero] at hg; first | omega | (refine inR64_of ?_ ?_ <;> omega) | (constructor <;> omega)) | (simp [-List.getD_eq_getElem?_getD, -Int.default_eq_zero]; done))
    conv => whnf
    refine ⟨rfl, ?_, trivial, trivial⟩
    all_goals repeat' (first | exact True.intro | refine leF_cons rfl ?_ ?_ | refine leS_cons rfl ?_ ?_ | (show PLe _ _ _ _; conv => whnf) | (show SLe _ _ _ _; conv => whnf) | (show PLeL _ _ _ _; conv => whnf) | apply And.intro | rfl | exact Nat.le_refl _ | exact fun _ _ => rfl | exact rowEq0 _ _)
  simp only [bif_t, bif_f, decide_eq_true_eq, decide_eq_false_iff_not, Bool.not_eq_true', Bool.not_eq_false', Bool.and_eq_true, Bool.or_eq_true, Bool.and_eq_false_iff, Bool.or_eq_false_iff, beq_iff_eq, bne_iff_ne, beq_eq_false_iff_ne, bne_eq_false_iff_eq, reduceCtorEq, false_and, and_false, true_and, and_true, or_false, false_or, or_true, true_or, not_true_eq_false, not_false_eq_true, Int.toNat_zero] at hc
  have hln : (l.length : Int) = n := by omega
  rw [show rowF l (some ab) n = scan (rowE l (some ab)) 0 l.length by unfold rowF; rw [if_neg (by omega)]]
  conv => whnf
  refine ⟨trivial, ?_⟩
  refine LSem.loop (n := 50) mix (α := Nat) (fun i => i ≤ l.length ∧ scan (rowE l (some ab)) i (l.length - i) = scan (rowE l (some ab)) 0 l.length)
    (fun i => [(0, .sl τ 1 l.length (fl eInt l)), (1, .sl τ' 1 ab.length (fl eInt ab)), (13, .sl τ 1 l.length (fl eInt l)), (14, .int .i64 l.length), (15, .int .i64 i)])
    (fun i => []) (fun i => l.length - i) 0 ?_ ?_ ?_
  · exact ⟨Nat.zero_le _, rfl⟩
  · refine ⟨rfl, rfl, ?_, ?_⟩
    all_goals repeat' (first | exact True.intro | refine leF_cons rfl ?_ ?_ | refine leS_cons rfl ?_ ?_ | (show PLe _ _ _ _; conv => whnf) | (show SLe _ _ _ _; conv => whnf) | (show PLeL _ _ _ _; conv => whnf) | apply And.intro | rfl | exact Nat.le_refl _ | exact fun _ _ => rfl | exact rowEq0 _ _)
  · intro i hi
    obtain ⟨hi, hs⟩ := hi
    have hj : ((i : Int)).toNat = i := by omega
    have hj1 : ((i : Int) - 1).toNat = i - 1 := by omega
    conv => whnf
    refine ⟨trivial, fun hc => ?_, fun hc => ?_⟩
    · replace hc := of_decide_eq_true hc
      have hlt : i < l.length := by omega
      conv => whnf
      refine ⟨?_, fun h1 => ?_, fun h1 => ?_⟩
      · (try conv => whnf)
        (repeat' (first | exact True.intro | exact fun _ h => h | refine inR64_of ?_ ?_ | apply And.intro | refine maxLen_ge ?_)) <;> (first | omega | (dsimp only; omega) | (dsimp only [List.length_cons, List.length_nil]; omega) | (intro hg; rw [hg]; rfl) | (intro hg hh; rw [hg, hh]; rfl) | (intro hg; simp [-List.getD_eq_getElem?_getD, -Int.default_eq_zero] at hg; first | omega | (refine inR64_of ?_ ?_ <;> omega) | (constructor <;> omega)) | (simp [-List.getD_eq_getElem?_getD, -Int.default_eq_zero]; done))
      · simp only [bif_t, bif_f, decide_eq_true_eq, decide_eq_false_iff_not, Bool.not_eq_true', Bool.not_eq_false', Bool.and_eq_true, Bool.or_eq_true, Bool.and_eq_false_iff, Bool.or_eq_false_iff, beq_iff_eq, bne_iff_ne, beq_eq_false_iff_ne, bne_eq_false_iff_eq, reduceCtorEq, false_and, and_false, true_and, and_true, or_false, false_or, or_true, true_or, not_true_eq_false, not_false_eq_true, Int.toNat_zero] at h1
        rw [hj] at h1
        have hE : rowE l (some ab) i = 1 := by unfold rowE; rw [if_pos (by omega)]
        have hh : scan (rowE l (some ab)) 0 l.length = 1 := by rw [← hs, ← hE]; exact scan_hit (show 0 < l.length - i by omega) (by rw [hE]; decide)
        rw [hh]
        conv => whnf
        refine ⟨?_, [], ?_⟩
        · (try conv => whnf)
          (repeat' (first | exact True.intro | exact fun _ h => h | refine inR64_of ?_ ?_ | apply And.intro | refine maxLen_ge ?_)) <;> (first | omega | (dsimp only; omega) | (dsimp only [List.length_cons, List.length_nil]; omega) | (intro hg; rw [hg]; rfl) | (intro hg hh; rw [hg, hh]; rfl) | (intro hg; simp [-List.getD_eq_getElem?_getD, -Int.default_eq_zero] at hg; first | omega | (refine inR64_of ?_ ?_ <;> omega) | (constructor <;> omega)) | (simp [-List.getD_eq_getElem?_getD, -Int.default_eq_zero]; done))
        conv => whnf
        refine ⟨rfl, ?_, trivial, trivial⟩
        all_goals repeat' (first | exact True.intro | refine leF_cons rfl ?_ ?_ | refine leS_cons rfl ?_ ?_ | (show PLe _ _ _ _; conv => whnf) | (show SLe _ _ _ _; conv => whnf) | (show PLeL _ _ _ _; conv => whnf) | apply And.intro | rfl | exact Nat.le_refl _ | exact fun _ _ => rfl | exact rowEq0 _ _)
      · simp only [bif_t, bif_f, decide_eq_true_eq, decide_eq_false_iff_not, Bool.not_eq_true', Bool.not_eq_false', Bool.and_eq_true, Bool.or_eq_true, Bool.and_eq_false_iff, Bool.or_eq_false_iff, beq_iff_eq, bne_iff_ne, beq_eq_false_iff_ne, bne_eq_false_iff_eq, reduceCtorEq, false_and, and_false, true_and, and_true, or_false, false_or, or_true, true_or, not_true_eq_false, not_false_eq_true, Int.toNat_zero] at h1
        rw [hj] at h1
        conv => whnf
        refine ⟨?_, fun h2 => ?_, fun h2 => ?_⟩
        · (try conv => whnf)
          (repeat' (first | exact True.intro | exact fun _ h => h | refine inR64_of ?_ ?_ | apply And.intro | refine maxLen_ge ?_)) <;> (first | omega | (dsimp only; omega) | (dsimp only [List.length_cons, List.length_nil]; omega) | (intro hg; rw [hg]; rfl) | (intro hg hh; rw [hg, hh]; rfl) | (intro hg; simp [-List.getD_eq_getElem?_getD, -Int.default_eq_zero] at hg; first | omega | (refine inR64_of ?_ ?_ <;> omega) | (constructor <;> omega)) | (simp [-List.getD_eq_getElem?_getD, -Int.default_eq_zero]; done))
        · simp only [bif_t, bif_f, decide_eq_true_eq, decide_eq_false_iff_not, Bool.not_eq_true', Bool.not_eq_false', Bool.and_eq_true, Bool.or_eq_true, Bool.and_eq_false_iff, Bool.or_eq_false_iff, beq_iff_eq, bne_iff_ne, beq_eq_false_iff_ne, bne_eq_false_iff_eq, reduceCtorEq, false_and, and_false, true_and, and_true, or_false, false_or, or_true, true_or, not_true_eq_false, not_false_eq_true, Int.toNat_zero] at h2
          rw [hj, hj1] at h2
          have hE : rowE l (some ab) i = 4 := by
            unfold rowE
            rw [if_neg (by omega), if_pos]
            rcases h2 with h2 | h2
            · exact .inl ⟨by omega, h2.2⟩
            · exact .inr (decide_eq_true h2.2)
          have hh : scan (rowE l (some ab)) 0 l.length = 4 := by rw [← hs, ← hE]; exact scan_hit (show 0 < l.length - i by omega) (by rw [hE]; decide)
          rw [hh]
          conv => whnf
          refine ⟨?_, [], ?_⟩
          · (try conv => whnf)
            (repeat' (first | exact True.intro | exact fun _ h => h | refine inR64_of ?_ ?_ | apply And.intro | refine maxLen_ge ?_)) <;> (first | omega | (dsimp only; omega) | (dsimp only [List.length_cons, List.length_nil]; omega) | (intro hg; rw [hg]; rfl) | (intro hg hh; rw [hg, hh]; rfl) | (intro hg; simp [-List.getD_eq_getElem?_getD, -Int.default_eq_zero] at hg; first | omega | (refine inR64_of ?_ ?_ <;> omega) | (constructor <;> omega)) | (simp [-List.getD_eq_getElem?_getD, -Int.default_eq_zero]; done))
          conv => whnf
          refine ⟨rfl, ?_, trivial, trivial⟩
          all_goals repeat' (first | exact True.intro | refine leF_cons rfl ?_ ?_ | refine leS_cons rfl ?_ ?_ | (show PLe _ _ _ _; conv => whnf) | (show SLe _ _ _ _; conv => whnf) | (show PLeL _ _ _ _; conv => whnf) | apply And.intro | rfl | exact Nat.le_refl _ | exact fun _ _ => rfl | exact rowEq0 _ _)
        · simp only [bif_t, bif_f, decide_eq_true_eq, decide_eq_false_iff_not, Bool.not_eq_true', Bool.not_eq_false', Bool.and_eq_true, Bool.or_eq_true, Bool.and_eq_false_iff, Bool.or_eq_false_iff, beq_iff_eq, bne_iff_ne, beq_eq_false_iff_ne, bne_eq_false_iff_eq, reduceCtorEq, false_and, and_false, true_and, and_true, or_false, false_or, or_true, true_or, not_true_eq_false, not_false_eq_true, Int.toNat_zero] at h2
          rw [hj, hj1] at h2
          have hE : rowE l (some ab) i = 0 := by
            unfold rowE
            rw [if_neg (by omega), if_neg]
            rintro (h3 | h3)
            · obtain ⟨h4, h5⟩ := h3
              rcases h2.1 with h6 | h6
              · exact h6.2 h5
              · exact h6 (by omega)
            · exact h2.2 (of_decide_eq_true h3)
          have hh : scan (rowE l (some ab)) (i + 1) (l.length - (i + 1)) = scan (rowE l (some ab)) 0 l.length := by rw [← hs, scan_step (show 0 < l.length - i by omega) hE]; congr 1
          conv => whnf
          refine ⟨?_, i + 1, ⟨by omega, hh⟩, ?_, rfl, rfl, ?_, ?_⟩
          · (try conv => whnf)
            (repeat' (first | exact True.intro | exact fun _ h => h | refine inR64_of ?_ ?_ | apply And.intro | refine maxLen_ge ?_)) <;> (first | omega | (dsimp only; omega) | (dsimp only [List.length_cons, List.length_nil]; omega) | (intro hg; rw [hg]; rfl) | (intro hg hh; rw [hg, hh]; rfl) | (intro hg; simp [-List.getD_eq_getElem?_getD, -Int.default_eq_zero] at hg; first | omega | (refine inR64_of ?_ ?_ <;> omega) | (constructor <;> omega)) | (simp [-List.getD_eq_getElem?_getD, -Int.default_eq_zero]; done))
          · omega
          all_goals repeat' (first | exact True.intro | refine leF_cons rfl ?_ ?_ | refine leS_cons rfl ?_ ?_ | (show PLe _ _ _ _; conv => whnf) | (show SLe _ _ _ _; conv => whnf) | (show PLeL _ _ _ _; conv => whnf) | apply And.intro | rfl | exact Nat.le_refl _ | exact fun _ _ => rfl | exact rowEq0 _ _)
          all_goals omega
    · replace hc := of_decide_eq_false hc
      have : i = l.length := by omega
      subst this
      rw [← hs, Nat.sub_self]
      conv => whnf
      refine ⟨?_, [], ?_⟩
      · (try conv => whnf)
        (repeat' (first | exact True.intro | exact fun _ h => h | refine inR64_of ?_ ?_ | apply And.intro | refine maxLen_ge ?_)) <;> (first | omega | (dsimp only; omega) | (dsimp only [List.length_cons, List.length_nil]; omega) | (intro hg; rw [hg]; rfl) | (intro hg hh; rw [hg, hh]; rfl) | (intro hg; simp [-List.getD_eq_getElem?_getD, -Int.default_eq_zero] at hg; first | omega | (refine inR64_of ?_ ?_ <;> omega) | (constructor <;> omega)) | (simp [-List.getD_eq_getElem?_getD, -Int.default_eq_zero]; done))
      conv => whnf
      refine ⟨rfl, ?_, trivial, trivial⟩
      all_goals repeat' (first | exact True.intro | refine leF_cons rfl ?_ ?_ | refine leS_cons rfl ?_ ?_ | (show PLe _ _ _ _; conv => whnf) | (show SLe _ _ _ _; conv => whnf) | (show PLeL _ _ _ _; conv => whnf) | apply And.intro | rfl | exact Nat.le_refl _ | exact fun _ _ => rfl | exact rowEq0 _ _)
end Pv
end Go.Proofs.YtcfcmafmdpbjoaaDoor

/- LAW 24, THE WALKS: valid tables, the function. -/
set_option linter.unusedSimpArgs false
set_option linter.unusedVariables false
namespace Go.Proofs.YtcfcmafmdpbjoaaDoor
namespace Pv

structure FT where
  lv : List Int
  inf : List Int
  rel : List (List Int)
def eIs (σ : Nat) (m : List Int) : List PV := [.sl σ 1 m.length (fl eInt m)]
def eFT (τ σ : Nat) (t : FT) : List PV := [.sl τ 1 t.lv.length (fl eInt t.lv), .sl τ 1 t.inf.length (fl eInt t.inf), .sl τ 1 t.rel.length (fl (eIs σ) t.rel)]
def abO (rel : List (List Int)) : Nat → Option (List Int)
  | 0 => none
  | k + 1 => some (rel.getD k default)
def abV (τ : Nat) (rel : List (List Int)) : Nat → PV
  | 0 => .nil 1
  | k + 1 => .sl τ 1 (rel.getD k default).length (fl eInt (rel.getD k default))
def relE (t : FT) (i : Nat) : Int := rowF (t.rel.getD i default) (abO t.rel i) t.inf.length
def checkF (t : FT) : Int :=
  if t.lv.length < 1 ∨ 20 < t.lv.length ∨ t.inf.length < 1 ∨ 20 < t.inf.length then 42
  else if scan (riseE t.lv 16777216) 0 t.lv.length ≠ 0 then scan (riseE t.lv 16777216) 0 t.lv.length
  else if scan (riseE t.inf 1073741824) 0 t.inf.length ≠ 0 then scan (riseE t.inf 1073741824) 0 t.inf.length
  else if t.rel.length ≠ t.lv.length then 3 else scan (relE t) 0 t.rel.length
theorem rowF_len {l : List Int} {ab : Option (List Int)} {n : Int} (h : rowF l ab n = 0) : (l.length : Int) = n := by
  unfold rowF at h
  split at h
  · cases h
  · rename_i hh; omega

set_option maxRecDepth 100000 in
set_option maxHeartbeats 8000000 in
theorem call22 (τ σ : Nat) (t : FT) (h1 : t.lv.length ≤ 4611686018427387904) (h2 : t.inf.length ≤ 4611686018427387904) (h3 : t.rel.length ≤ 4611686018427387904) (h4 : ∀ i, i < t.rel.length → (t.rel.getD i default).length ≤ 4611686018427387904) :
    PureCall Tryd.prog 22 [.agg (eFT τ σ t)] [] ⟨.int .i64 (checkF t), [], []⟩ := by
  refine pure_call mix Tryd.func22 fits22 rfl ?_
  obtain ⟨lv, inf, rel⟩ := t
  dsimp only at h1 h2 h3 h4
  conv => whnf
  refine ⟨trivial, ?_⟩
  refine LSem.loop (n := 67) mix (α := Nat) (fun i => i ≤ 2 ∧ (0 < i → 1 ≤ lv.length ∧ lv.length ≤ 20) ∧ (1 < i → 1 ≤ inf.length ∧ inf.length ≤ 20))
    (fun i => [(1, .pt 16 0 0), (17, .os 272), (18, .int .i64 2), (19, .int .i64 i)])
    (fun i => [(16, .box [.sl τ 1 lv.length (fl eInt lv), .sl τ 1 inf.length (fl eInt inf), .sl τ 1 rel.length (fl (eIs σ) rel)]), (272, .row 0 3 1 2 (fun i => [[.int .i64 lv.length], [.int .i64 inf.length]].getD i []))]) (fun i => 2 - i) 0 ?_ ?_ ?_
  · exact ⟨Nat.zero_le _, fun h => by omega, fun h => by omega⟩
  · refine ⟨rfl, rfl, ?_, ?_⟩
    all_goals repeat' (first | exact True.intro | refine leF_cons rfl ?_ ?_ | refine leS_cons rfl ?_ ?_ | (show PLe _ _ _ _; conv => whnf) | (show SLe _ _ _ _; conv => whnf) | (show PLeL _ _ _ _; conv => whnf) | apply And.intro | rfl | exact Nat.le_refl _ | exact fun _ _ => rfl | exact rowEq0 _ _)
    all_goals skip
  · intro i hi
    obtain ⟨hi, k1, k2⟩ := hi
    have h012 : i = 0 ∨ i = 1 ∨ i = 2 := by omega
    rcases h012 with rfl | rfl | rfl
    · conv => whnf
      refine ⟨?_, fun _ => ?_, fun hc => absurd hc (by decide)⟩
      · (try conv => whnf)
        (repeat' (first | exact True.intro | exact fun _ h => h | refine inR64_of ?_ ?_ | apply And.intro | refine maxLen_ge ?_)) <;> (first | omega | (dsimp only; omega) | (dsimp only [List.length_cons, List.length_nil]; omega) | (intro hg; rw [hg]; rfl) | (intro hg hh; rw [hg, hh]; rfl) | (intro hg; simp [-List.getD_eq_getElem?_getD, -Int.default_eq_zero] at hg; first | omega | (refine inR64_of ?_ ?_ <;> omega) | (constructor <;> omega)) | (simp [-List.getD_eq_getElem?_getD, -Int.default_eq_zero]; done))
      conv => whnf
      refine ⟨?_, fun hc => ?_, fun hc => ?_⟩
      · (try conv => whnf)
        (repeat' (first | exact True.intro | exact fun _ h => h | refine inR64_of ?_ ?_ | apply And.intro | refine maxLen_ge ?_)) <;> (first | omega | (dsimp only; omega) | (dsimp only [List.length_cons, List.length_nil]; omega) | (intro hg; rw [hg]; rfl) | (intro hg hh; rw [hg, hh]; rfl) | (intro hg; simp [-List.getD_eq_getElem?_getD, -Int.default_eq_zero] at hg; first | omega | (refine inR64_of ?_ ?_ <;> omega) | (constructor <;> omega)) | (simp [-List.getD_eq_getElem?_getD, -Int.default_eq_zero]; done))
      · simp only [bif_t, bif_f, decide_eq_true_eq, decide_eq_false_iff_not, Bool.not_eq_true', Bool.not_eq_false', Bool.and_eq_true, Bool.or_eq_true, Bool.and_eq_false_iff, Bool.or_eq_false_iff, beq_iff_eq, bne_iff_ne, beq_eq_false_iff_ne, bne_eq_false_iff_eq, reduceCtorEq, false_and, and_false, true_and, and_true, or_false, false_or, or_true, true_or, not_true_eq_false, not_false_eq_true, Int.toNat_zero] at hc
        rw [show checkF ⟨lv, inf, rel⟩ = 42 by unfold checkF; rw [if_pos (by dsimp only; omega)]]
        conv => whnf
        refine ⟨?_, [], ?_⟩
        · (try conv => whnf)
          (repeat' (first | exact True.intro | exact fun _ h => h | refine inR64_of ?_ ?_ | apply And.intro | refine maxLen_ge ?_)) <;> (first | omega | (dsimp only; omega) | (dsimp only [List.length_cons, List.length_nil]; omega) | (intro hg; rw [hg]; rfl) | (intro hg hh; rw [hg, hh]; rfl) | (intro hg; simp [-List.getD_eq_getElem?_getD, -Int.default_eq_zero] at hg; first | omega | (refine inR64_of ?_ ?_ <;> omega) | (constructor <;> omega)) | (simp [-List.getD_eq_getElem?_getD, -Int.default_eq_zero]; done))
        conv => whnf
        refine ⟨rfl, ?_, trivial, trivial⟩
        all_goals repeat' (first | exact True.intro | refine leF_cons rfl ?_ ?_ | refine leS_cons rfl ?_ ?_ | (show PLe _ _ _ _; conv => whnf) | (show SLe _ _ _ _; conv => whnf) | (show PLeL _ _ _ _; conv => whnf) | apply And.intro | rfl | exact Nat.le_refl _ | exact fun _ _ => rfl | exact rowEq0 _ _)
      · simp only [bif_t, bif_f, decide_eq_true_eq, decide_eq_false_iff_not, Bool.not_eq_true', Bool.not_eq_false', Bool.and_eq_true, Bool.or_eq_true, Bool.and_eq_false_iff, Bool.or_eq_false_iff, beq_iff_eq, bne_iff_ne, beq_eq_false_iff_ne, bne_eq_false_iff_eq, reduceCtorEq, false_and, and_false, true_and, and_true, or_false, false_or, or_true, true_or, not_true_eq_false, not_false_eq_true, Int.toNat_zero] at hc
        conv => whnf
        refine ⟨?_, 1, ⟨by omega, fun _ => by omega, fun h => by omega⟩, ?_, rfl, rfl, ?_, ?_⟩
        · (try conv => whnf)
          (repeat' (first | exact True.intro | exact fun _ h => h | refine inR64_of ?_ ?_ | apply And.intro | refine maxLen_ge ?_)) <;> (first | omega | (dsimp only; omega) | (dsimp only [List.length_cons, List.length_nil]; omega) | (intro hg; rw [hg]; rfl) | (intro hg hh; rw [hg, hh]; rfl) | (intro hg; simp [-List.getD_eq_getElem?_getD, -Int.default_eq_zero] at hg; first | omega | (refine inR64_of ?_ ?_ <;> omega) | (constructor <;> omega)) | (simp [-List.getD_eq_getElem?_getD, -Int.default_eq_zero]; done))
        · omega
        all_goals repeat' (first | exact True.intro | refine leF_cons rfl ?_ ?_ | refine leS_cons rfl ?_ ?_ | (show PLe _ _ _ _; conv => whnf) | (show SLe _ _ _ _; conv => whnf) | (show PLeL _ _ _ _; conv => whnf) | apply And.intro | rfl | exact Nat.le_refl _ | exact fun _ _ => rfl | exact rowEq0 _ _)
        all_goals skip
    · conv => whnf
      refine ⟨?_, fun _ => ?_, fun hc => absurd hc (by decide)⟩
      · (try conv => whnf)
        (repeat' (first | exact True.intro | exact fun _ h => h | refine inR64_of ?_ ?_ | apply And.intro | refine maxLen_ge ?_)) <;> (first | omega | (dsimp only; omega) | (dsimp only [List.length_cons, List.length_nil]; omega) | (intro hg; rw [hg]; rfl) | (intro hg hh; rw [hg, hh]; rfl) | (intro hg; simp [-List.getD_eq_getElem?_getD, -Int.default_eq_zero] at hg; first | omega | (refine inR64_of ?_ ?_ <;> omega) | (constructor <;> omega)) | (simp [-List.getD_eq_getElem?_getD, -Int.default_eq_zero]; done))
      conv => whnf
      refine ⟨?_, fun hc => ?_, fun hc => ?_⟩
      · (try conv => whnf)
        (repeat' (first | exact True.intro | exact fun _ h => h | refine inR64_of ?_ ?_ | apply And.intro | refine maxLen_ge ?_)) <;> (first | omega | (dsimp only; omega) | (dsimp only [List.length_cons, List.length_nil]; omega) | (intro hg; rw [hg]; rfl) | (intro hg hh; rw [hg, hh]; rfl) | (intro hg; simp [-List.getD_eq_getElem?_getD, -Int.default_eq_zero] at hg; first | omega | (refine inR64_of ?_ ?_ <;> omega) | (constructor <;> omega)) | (simp [-List.getD_eq_getElem?_getD, -Int.default_eq_zero]; done))
      · simp only [bif_t, bif_f, decide_eq_true_eq, decide_eq_false_iff_not, Bool.not_eq_true', Bool.not_eq_false', Bool.and_eq_true, Bool.or_eq_true, Bool.and_eq_false_iff, Bool.or_eq_false_iff, beq_iff_eq, bne_iff_ne, beq_eq_false_iff_ne, bne_eq_false_iff_eq, reduceCtorEq, false_and, and_false, true_and, and_true, or_false, false_or, or_true, true_or, not_true_eq_false, not_false_eq_true, Int.toNat_zero] at hc
        rw [show checkF ⟨lv, inf, rel⟩ = 42 by unfold checkF; rw [if_pos (by dsimp only; omega)]]
        conv => whnf
        refine ⟨?_, [], ?_⟩
        · (try conv => whnf)
          (repeat' (first | exact True.intro | exact fun _ h => h | refine inR64_of ?_ ?_ | apply And.intro | refine maxLen_ge ?_)) <;> (first | omega | (dsimp only; omega) | (dsimp only [List.length_cons, List.length_nil]; omega) | (intro hg; rw [hg]; rfl) | (intro hg hh; rw [hg, hh]; rfl) | (intro hg; simp [-List.getD_eq_getElem?_getD, -Int.default_eq_zero] at hg; first | omega | (refine inR64_of ?_ ?_ <;> omega) | (constructor <;> omega)) | (simp [-List.getD_eq_getElem?_getD, -Int.default_eq_zero]; done))
        conv => whnf
        refine ⟨rfl, ?_, trivial, trivial⟩
        all_goals repeat' (first | exact True.intro | refine leF_cons rfl ?_ ?_ | refine leS_cons rfl ?_ ?_ | (show PLe _ _ _ _; conv => whnf) | (show SLe _ _ _ _; conv => whnf) | (show PLeL _ _ _ _; conv => whnf) | apply And.intro | rfl | exact Nat.le_refl _ | exact fun _ _ => rfl | exact rowEq0 _ _)
      · simp only [bif_t, bif_f, decide_eq_true_eq, decide_eq_false_iff_not, Bool.not_eq_true', Bool.not_eq_false', Bool.and_eq_true, Bool.or_eq_true, Bool.and_eq_false_iff, Bool.or_eq_false_iff, beq_iff_eq, bne_iff_ne, beq_eq_false_iff_ne, bne_eq_false_iff_eq, reduceCtorEq, false_and, and_false, true_and, and_true, or_false, false_or, or_true, true_or, not_true_eq_false, not_false_eq_true, Int.toNat_zero] at hc
        conv => whnf
        refine ⟨?_, 2, ⟨by omega, fun _ => k1 (by omega), fun _ => by omega⟩, ?_, rfl, rfl, ?_, ?_⟩
        · (try conv => whnf)
          (repeat' (first | exact True.intro | exact fun _ h => h | refine inR64_of ?_ ?_ | apply And.intro | refine maxLen_ge ?_)) <;> (first | omega | (dsimp only; omega) | (dsimp only [List.length_cons, List.length_nil]; omega) | (intro hg; rw [hg]; rfl) | (intro hg hh; rw [hg, hh]; rfl) | (intro hg; simp [-List.getD_eq_getElem?_getD, -Int.default_eq_zero] at hg; first | omega | (refine inR64_of ?_ ?_ <;> omega) | (constructor <;> omega)) | (simp [-List.getD_eq_getElem?_getD, -Int.default_eq_zero]; done))
        · omega
        all_goals repeat' (first | exact True.intro | refine leF_cons rfl ?_ ?_ | refine leS_cons rfl ?_ ?_ | (show PLe _ _ _ _; conv => whnf) | (show SLe _ _ _ _; conv => whnf) | (show PLeL _ _ _ _; conv => whnf) | apply And.intro | rfl | exact Nat.le_refl _ | exact fun _ _ => rfl | exact rowEq0 _ _)
        all_goals skip
    · have l1 := k1 (by omega)
      have l2 := k2 (by omega)
      have hf : checkF ⟨lv, inf, rel⟩ = if scan (riseE lv 16777216) 0 lv.length ≠ 0 then scan (riseE lv 16777216) 0 lv.length
          else if scan (riseE inf 1073741824) 0 inf.length ≠ 0 then scan (riseE inf 1073741824) 0 inf.length
          else if rel.length ≠ lv.length then 3 else scan (relE ⟨lv, inf, rel⟩) 0 rel.length := by
        unfold checkF; rw [if_neg (by dsimp only; omega)]
      rw [hf]
      clear hf k1 k2
      conv => whnf
      refine ⟨?_, fun hc => absurd hc (by decide), fun _ => ?_⟩
      · (try conv => whnf)
        (repeat' (first | exact True.intro | exact fun _ h => h | refine inR64_of ?_ ?_ | apply And.intro | refine maxLen_ge ?_)) <;> (first | omega | (dsimp only; omega) | (dsimp only [List.length_cons, List.length_nil]; omega) | (intro hg; rw [hg]; rfl) | (intro hg hh; rw [hg, hh]; rfl) | (intro hg; simp [-List.getD_eq_getElem?_getD, -Int.default_eq_zero] at hg; first | omega | (refine inR64_of ?_ ?_ <;> omega) | (constructor <;> omega)) | (simp [-List.getD_eq_getElem?_getD, -Int.default_eq_zero]; done))
      conv => whnf
      refine ⟨_, fun _ => call42 _ lv 16777216 (by omega), ?_⟩
      generalize scan (riseE lv 16777216) 0 lv.length = E1
      conv => whnf
      refine ⟨?_, fun hc => ?_, fun hc => ?_⟩
      · (try conv => whnf)
        (repeat' (first | exact True.intro | exact fun _ h => h | refine inR64_of ?_ ?_ | apply And.intro | refine maxLen_ge ?_)) <;> (first | omega | (dsimp only; omega) | (dsimp only [List.length_cons, List.length_nil]; omega) | (intro hg; rw [hg]; rfl) | (intro hg hh; rw [hg, hh]; rfl) | (intro hg; simp [-List.getD_eq_getElem?_getD, -Int.default_eq_zero] at hg; first | omega | (refine inR64_of ?_ ?_ <;> omega) | (constructor <;> omega)) | (simp [-List.getD_eq_getElem?_getD, -Int.default_eq_zero]; done))
      · simp only [bif_t, bif_f, decide_eq_true_eq, decide_eq_false_iff_not, Bool.not_eq_true', Bool.not_eq_false', Bool.and_eq_true, Bool.or_eq_true, Bool.and_eq_false_iff, Bool.or_eq_false_iff, beq_iff_eq, bne_iff_ne, beq_eq_false_iff_ne, bne_eq_false_iff_eq, reduceCtorEq, false_and, and_false, true_and, and_true, or_false, false_or, or_true, true_or, not_true_eq_false, not_false_eq_true, Int.toNat_zero] at hc
        rw [if_pos hc]
        conv => whnf
        refine ⟨?_, [], ?_⟩
        · (try conv => whnf)
          (repeat' (first | exact True.intro | exact fun _ h => h | refine inR64_of ?_ ?_ | apply And.intro | refine maxLen_ge ?_)) <;> (first | omega | (dsimp only; omega) | (dsimp only [List.length_cons, List.length_nil]; omega) | (intro hg; rw [hg]; rfl) | (intro hg hh; rw [hg, hh]; rfl) | (intro hg; simp [-List.getD_eq_getElem?_getD, -Int.default_eq_zero] at hg; first | omega | (refine inR64_of ?_ ?_ <;> omega) | (constructor <;> omega)) | (simp [-List.getD_eq_getElem?_getD, -Int.default_eq_zero]; done))
        conv => whnf
        refine ⟨rfl, ?_, trivial, trivial⟩
        all_goals repeat' (first | exact True.intro | refine leF_cons rfl ?_ ?_ | refine leS_cons rfl ?_ ?_ | (show PLe _ _ _ _; conv => whnf) | (show SLe _ _ _ _; conv => whnf) | (show PLeL _ _ _ _; conv => whnf) | apply And.intro | rfl | exact Nat.le_refl _ | exact fun _ _ => rfl | exact rowEq0 _ _)
      simp only [bif_t, bif_f, decide_eq_true_eq, decide_eq_false_iff_not, Bool.not_eq_true', Bool.not_eq_false', Bool.and_eq_true, Bool.or_eq_true, Bool.and_eq_false_iff, Bool.or_eq_false_iff, beq_iff_eq, bne_iff_ne, beq_eq_false_iff_ne, bne_eq_false_iff_eq, reduceCtorEq, false_and, and_false, true_and, and_true, or_false, false_or, or_true, true_or, not_true_eq_false, not_false_eq_true, Int.toNat_zero] at hc
      rw [if_neg (by omega)]
      conv => whnf
      refine ⟨_, fun _ => call42 _ inf 1073741824 (by omega), ?_⟩
      generalize scan (riseE inf 1073741824) 0 inf.length = E2
      conv => whnf
      refine ⟨?_, fun hc => ?_, fun hc => ?_⟩
      · (try conv => whnf)
        (repeat' (first | exact True.intro | exact fun _ h => h | refine inR64_of ?_ ?_ | apply And.intro | refine maxLen_ge ?_)) <;> (first | omega | (dsimp only; omega) | (dsimp only [List.length_cons, List.length_nil]; omega) | (intro hg; rw [hg]; rfl) | (intro hg hh; rw [hg, hh]; rfl) | (intro hg; simp [-List.getD_eq_getElem?_getD, -Int.default_eq_zero] at hg; first | omega | (refine inR64_of ?_ ?_ <;> omega) | (constructor <;> omega)) | (simp [-List.getD_eq_getElem?_getD, -Int.default_eq_zero]; done))
      · simp only [bif_t, bif_f, decide_eq_true_eq, decide_eq_false_iff_not, Bool.not_eq_true', Bool.not_eq_false', Bool.and_eq_true, Bool.or_eq_true, Bool.and_eq_false_iff, Bool.or_eq_false_iff, beq_iff_eq, bne_iff_ne, beq_eq_false_iff_ne, bne_eq_false_iff_eq, reduceCtorEq, false_and, and_false, true_and, and_true, or_false, false_or, or_true, true_or, not_true_eq_false, not_false_eq_true, Int.toNat_zero] at hc
        rw [if_pos hc]
        conv => whnf
        refine ⟨?_, [], ?_⟩
        · (try conv => whnf)
          (repeat' (first | exact True.intro | exact fun _ h => h | refine inR64_of ?_ ?_ | apply And.intro | refine maxLen_ge ?_)) <;> (first | omega | (dsimp only; omega) | (dsimp only [List.length_cons, List.length_nil]; omega) | (intro hg; rw [hg]; rfl) | (intro hg hh; rw [hg, hh]; rfl) | (intro hg; simp [-List.getD_eq_getElem?_getD, -Int.default_eq_zero] at hg; first | omega | (refine inR64_of ?_ ?_ <;> omega) | (constructor <;> omega)) | (simp [-List.getD_eq_getElem?_getD, -Int.default_eq_zero]; done))
        conv => whnf
        refine ⟨rfl, ?_, trivial, trivial⟩
        all_goals repeat' (first | exact True.intro | refine leF_cons rfl ?_ ?_ | refine leS_cons rfl ?_ ?_ | (show PLe _ _ _ _; conv => whnf) | (show SLe _ _ _ _; conv => whnf) | (show PLeL _ _ _ _; conv => whnf) | apply And.intro | rfl | exact Nat.le_refl _ | exact fun _ _ => rfl | exact rowEq0 _ _)
      simp only [bif_t, bif_f, decide_eq_true_eq, decide_eq_false_iff_not, Bool.not_eq_true', Bool.not_eq_false', Bool.and_eq_true, Bool.or_eq_true, Bool.and_eq_false_iff, Bool.or_eq_false_iff, beq_iff_eq, bne_iff_ne, beq_eq_false_iff_ne, bne_eq_false_iff_eq, reduceCtorEq, false_and, and_false, true_and, and_true, or_false, false_or, or_true, true_or, not_true_eq_false, not_false_eq_true, Int.toNat_zero] at hc
      rw [if_neg (by omega)]
      conv => whnf
      refine ⟨?_, fun hc => ?_, fun hc => ?_⟩
      · (try conv => whnf)
        (repeat' (first | exact True.intro | exact fun _ h => h | refine inR64_of ?_ ?_ | apply And.intro | refine maxLen_ge ?_)) <;> (first | omega | (dsimp only; omega) | (dsimp only [List.length_cons, List.length_nil]; omega) | (intro hg; rw [hg]; rfl) | (intro hg hh; rw [hg, hh]; rfl) | (intro hg; simp [-List.getD_eq_getElem?_getD, -Int.default_eq_zero] at hg; first | omega | (refine inR64_of ?_ ?_ <;> omega) | (constructor <;> omega)) | (simp [-List.getD_eq_getElem?_getD, -Int.default_eq_zero]; done))
      · simp only [bif_t, bif_f, decide_eq_true_eq, decide_eq_false_iff_not, Bool.not_eq_true', Bool.not_eq_false', Bool.and_eq_true, Bool.or_eq_true, Bool.and_eq_false_iff, Bool.or_eq_false_iff, beq_iff_eq, bne_iff_ne, beq_eq_false_iff_ne, bne_eq_false_iff_eq, reduceCtorEq, false_and, and_false, true_and, and_true, or_false, false_or, or_true, true_or, not_true_eq_false, not_false_eq_true, Int.toNat_zero] at hc
        rw [if_pos (by omega)]
        conv => whnf
        refine ⟨?_, [], ?_⟩
        · (try conv => whnf)
          (repeat' (first | exact True.intro | exact fun _ h => h | refine inR64_of ?_ ?_ | apply And.intro | refine maxLen_ge ?_)) <;> (first | omega | (dsimp only; omega) | (dsimp only [List.length_cons, List.length_nil]; omega) | (intro hg; rw [hg]; rfl) | (intro hg hh; rw [hg, hh]; rfl) | (intro hg; simp [-List.getD_eq_getElem?_getD, -Int.default_eq_zero] at hg; first | omega | (refine inR64_of ?_ ?_ <;> omega) | (constructor <;> omega)) | (simp [-List.getD_eq_getElem?_getD, -Int.default_eq_zero]; done))
        conv => whnf
        refine ⟨rfl, ?_, trivial, trivial⟩
        all_goals repeat' (first | exact True.intro | refine leF_cons rfl ?_ ?_ | refine leS_cons rfl ?_ ?_ | (show PLe _ _ _ _; conv => whnf) | (show SLe _ _ _ _; conv => whnf) | (show PLeL _ _ _ _; conv => whnf) | apply And.intro | rfl | exact Nat.le_refl _ | exact fun _ _ => rfl | exact rowEq0 _ _)
      simp only [bif_t, bif_f, decide_eq_true_eq, decide_eq_false_iff_not, Bool.not_eq_true', Bool.not_eq_false', Bool.and_eq_true, Bool.or_eq_true, Bool.and_eq_false_iff, Bool.or_eq_false_iff, beq_iff_eq, bne_iff_ne, beq_eq_false_iff_ne, bne_eq_false_iff_eq, reduceCtorEq, false_and, and_false, true_and, and_true, or_false, false_or, or_true, true_or, not_true_eq_false, not_false_eq_true, Int.toNat_zero] at hc
      rw [if_neg (by omega)]
      conv => whnf
      refine ⟨?_, ?_⟩
      · (try conv => whnf)
        (repeat' (first | exact True.intro | exact fun _ h => h | refine inR64_of ?_ ?_ | apply And.intro | refine maxLen_ge ?_)) <;> (first | omega | (dsimp only; omega) | (dsimp only [List.length_cons, List.length_nil]; omega) | (intro hg; rw [hg]; rfl) | (intro hg hh; rw [hg, hh]; rfl) | (intro hg; simp [-List.getD_eq_getElem?_getD, -Int.default_eq_zero] at hg; first | omega | (refine inR64_of ?_ ?_ <;> omega) | (constructor <;> omega)) | (simp [-List.getD_eq_getElem?_getD, -Int.default_eq_zero]; done))
      refine LSem.loop (n := 67) mix (α := Nat) (fun i => i ≤ rel.length ∧ scan (relE ⟨lv, inf, rel⟩) i (rel.length - i) = scan (relE ⟨lv, inf, rel⟩) 0 rel.length ∧ ∀ j, j < i → relE ⟨lv, inf, rel⟩ j = 0)
        (fun i => [(1, .pt 16 0 0), (7, abV τ rel i), (50, .sl τ 1 rel.length (fl (eIs σ) rel)), (51, .int .i64 rel.length), (52, .int .i64 i)])
        (fun i => [(16, .box [.sl τ 1 lv.length (fl eInt lv), .sl τ 1 inf.length (fl eInt inf), .sl τ 1 rel.length (fl (eIs σ) rel)])]) (fun i => rel.length - i) 0 ?_ ?_ ?_
      · exact ⟨Nat.zero_le _, rfl, fun j hj => by omega⟩
      · refine ⟨rfl, rfl, ?_, ?_⟩
        all_goals repeat' (first | exact True.intro | refine leF_cons rfl ?_ ?_ | refine leS_cons rfl ?_ ?_ | (show PLe _ _ _ _; conv => whnf) | (show SLe _ _ _ _; conv => whnf) | (show PLeL _ _ _ _; conv => whnf) | apply And.intro | rfl | exact Nat.le_refl _ | exact fun _ _ => rfl | exact rowEq0 _ _)
        all_goals skip
      · intro i hi
        obtain ⟨hi, hs, hall⟩ := hi
        have hj : ((i : Int)).toNat = i := by omega
        cases i with
        | zero =>
          conv => whnf
          refine ⟨trivial, fun hc => ?_, fun hc => ?_⟩
          · replace hc := of_decide_eq_true hc
            have hlt : 0 < rel.length := by
              have h : (0 : Int) < rel.length := hc
              omega
            have hl0 := h4 0 hlt
            conv => whnf
            refine ⟨_, fun _ => call43n _ (rel.getD (Int.toNat 0) default) inf.length (by rw [Int.toNat_zero]; omega), ?_⟩
            have hE : relE ⟨lv, inf, rel⟩ 0 = rowF (rel.getD 0 default) none inf.length := rfl
            rw [show rel.getD (Int.toNat 0) default = rel.getD 0 default from rfl]
            generalize rowF (rel.getD 0 default) none (inf.length : Int) = X at hE ⊢
            conv => whnf
            refine ⟨?_, fun hc1 => ?_, fun hc1 => ?_⟩
            · (try conv => whnf)
              (repeat' (first | exact True.intro | exact fun _ h => h | refine inR64_of ?_ ?_ | apply And.intro | refine maxLen_ge ?_)) <;> (first | omega | (dsimp only; omega) | (dsimp only [List.length_cons, List.length_nil]; omega) | (intro hg; rw [hg]; rfl) | (intro hg hh; rw [hg, hh]; rfl) | (intro hg; simp [-List.getD_eq_getElem?_getD, -Int.default_eq_zero] at hg; first | omega | (refine inR64_of ?_ ?_ <;> omega) | (constructor <;> omega)) | (simp [-List.getD_eq_getElem?_getD, -Int.default_eq_zero]; done))
            · simp only [bif_t, bif_f, decide_eq_true_eq, decide_eq_false_iff_not, Bool.not_eq_true', Bool.not_eq_false', Bool.and_eq_true, Bool.or_eq_true, Bool.and_eq_false_iff, Bool.or_eq_false_iff, beq_iff_eq, bne_iff_ne, beq_eq_false_iff_ne, bne_eq_false_iff_eq, reduceCtorEq, false_and, and_false, true_and, and_true, or_false, false_or, or_true, true_or, not_true_eq_false, not_false_eq_true, Int.toNat_zero] at hc1
              have hh : scan (relE ⟨lv, inf, rel⟩) 0 rel.length = X := by rw [← hE]; exact scan_hit hlt (by rw [hE]; exact hc1)
              rw [hh]
              conv => whnf
              refine ⟨?_, [], ?_⟩
              · (try conv => whnf)
                (repeat' (first | exact True.intro | exact fun _ h => h | refine inR64_of ?_ ?_ | apply And.intro | refine maxLen_ge ?_)) <;> (first | omega | (dsimp only; omega) | (dsimp only [List.length_cons, List.length_nil]; omega) | (intro hg; rw [hg]; rfl) | (intro hg hh; rw [hg, hh]; rfl) | (intro hg; simp [-List.getD_eq_getElem?_getD, -Int.default_eq_zero] at hg; first | omega | (refine inR64_of ?_ ?_ <;> omega) | (constructor <;> omega)) | (simp [-List.getD_eq_getElem?_getD, -Int.default_eq_zero]; done))
              conv => whnf
              refine ⟨rfl, ?_, trivial, trivial⟩
              all_goals repeat' (first | exact True.intro | refine leF_cons rfl ?_ ?_ | refine leS_cons rfl ?_ ?_ | (show PLe _ _ _ _; conv => whnf) | (show SLe _ _ _ _; conv => whnf) | (show PLeL _ _ _ _; conv => whnf) | apply And.intro | rfl | exact Nat.le_refl _ | exact fun _ _ => rfl | exact rowEq0 _ _)
            · simp only [bif_t, bif_f, decide_eq_true_eq, decide_eq_false_iff_not, Bool.not_eq_true', Bool.not_eq_false', Bool.and_eq_true, Bool.or_eq_true, Bool.and_eq_false_iff, Bool.or_eq_false_iff, beq_iff_eq, bne_iff_ne, beq_eq_false_iff_ne, bne_eq_false_iff_eq, reduceCtorEq, false_and, and_false, true_and, and_true, or_false, false_or, or_true, true_or, not_true_eq_false, not_false_eq_true, Int.toNat_zero] at hc1
              have hE0 : relE ⟨lv, inf, rel⟩ 0 = 0 := by rw [hE]; omega
              have hh : scan (relE ⟨lv, inf, rel⟩) 1 (rel.length - 1) = scan (relE ⟨lv, inf, rel⟩) 0 rel.length := by rw [scan_step hlt hE0]
              conv => whnf
              refine ⟨?_, 1, ⟨by omega, hh, fun j hj2 => ?_⟩, ?_, rfl, rfl, ?_, ?_⟩
              · (try conv => whnf)
                (repeat' (first | exact True.intro | exact fun _ h => h | refine inR64_of ?_ ?_ | apply And.intro | refine maxLen_ge ?_)) <;> (first | omega | (dsimp only; omega) | (dsimp only [List.length_cons, List.length_nil]; omega) | (intro hg; rw [hg]; rfl) | (intro hg hh; rw [hg, hh]; rfl) | (intro hg; simp [-List.getD_eq_getElem?_getD, -Int.default_eq_zero] at hg; first | omega | (refine inR64_of ?_ ?_ <;> omega) | (constructor <;> omega)) | (simp [-List.getD_eq_getElem?_getD, -Int.default_eq_zero]; done))
              · rw [show j = 0 by omega]; exact hE0
              · omega
              all_goals repeat' (first | exact True.intro | refine leF_cons rfl ?_ ?_ | refine leS_cons rfl ?_ ?_ | (show PLe _ _ _ _; conv => whnf) | (show SLe _ _ _ _; conv => whnf) | (show PLeL _ _ _ _; conv => whnf) | apply And.intro | rfl | exact Nat.le_refl _ | exact fun _ _ => rfl | exact rowEq0 _ _)
              all_goals first | omega | skip
          · replace hc := of_decide_eq_false hc
            have h0 : rel.length = 0 := by
              have h : ¬ (0 : Int) < rel.length := hc
              omega
            rw [h0]
            conv => whnf
            refine ⟨?_, [], ?_⟩
            · (try conv => whnf)
              (repeat' (first | exact True.intro | exact fun _ h => h | refine inR64_of ?_ ?_ | apply And.intro | refine maxLen_ge ?_)) <;> (first | omega | (dsimp only; omega) | (dsimp only [List.length_cons, List.length_nil]; omega) | (intro hg; rw [hg]; rfl) | (intro hg hh; rw [hg, hh]; rfl) | (intro hg; simp [-List.getD_eq_getElem?_getD, -Int.default_eq_zero] at hg; first | omega | (refine inR64_of ?_ ?_ <;> omega) | (constructor <;> omega)) | (simp [-List.getD_eq_getElem?_getD, -Int.default_eq_zero]; done))
            conv => whnf
            refine ⟨rfl, ?_, trivial, trivial⟩
            all_goals repeat' (first | exact True.intro | refine leF_cons rfl ?_ ?_ | refine leS_cons rfl ?_ ?_ | (show PLe _ _ _ _; conv => whnf) | (show SLe _ _ _ _; conv => whnf) | (show PLeL _ _ _ _; conv => whnf) | apply And.intro | rfl | exact Nat.le_refl _ | exact fun _ _ => rfl | exact rowEq0 _ _)
        | succ k =>
          conv => whnf
          refine ⟨trivial, fun hc => ?_, fun hc => ?_⟩
          · replace hc := of_decide_eq_true hc
            have hlt : k + 1 < rel.length := by
              have h : ((k + 1 : Nat) : Int) < rel.length := hc
              omega
            have hl0 := h4 (k + 1) hlt
            have hlk := rowF_len (hall k (by omega))
            dsimp only at hlk
            conv => whnf
            refine ⟨_, fun _ => call43s _ _ (rel.getD (((k + 1 : Nat) : Int)).toNat default) (rel.getD k default) inf.length (by rw [hj]; omega) hlk, ?_⟩
            rw [hj]
            have hE : relE ⟨lv, inf, rel⟩ (k + 1) = rowF (rel.getD (k + 1) default) (some (rel.getD k default)) inf.length := rfl
            generalize rowF (rel.getD (k + 1) default) (some (rel.getD k default)) (inf.length : Int) = X at hE ⊢
            conv => whnf
            refine ⟨?_, fun hc1 => ?_, fun hc1 => ?_⟩
            · (try conv => whnf)
              (repeat' (first | exact True.intro | exact fun _ h => h | refine inR64_of ?_ ?_ | apply And.intro | refine maxLen_ge ?_)) <;> (first | omega | (dsimp only; omega) | (dsimp only [List.length_cons, List.length_nil]; omega) | (intro hg; rw [hg]; rfl) | (intro hg hh; rw [hg, hh]; rfl) | (intro hg; simp [-List.getD_eq_getElem?_getD, -Int.default_eq_zero] at hg; first | omega | (refine inR64_of ?_ ?_ <;> omega) | (constructor <;> omega)) | (simp [-List.getD_eq_getElem?_getD, -Int.default_eq_zero]; done))
            · simp only [bif_t, bif_f, decide_eq_true_eq, decide_eq_false_iff_not, Bool.not_eq_true', Bool.not_eq_false', Bool.and_eq_true, Bool.or_eq_true, Bool.and_eq_false_iff, Bool.or_eq_false_iff, beq_iff_eq, bne_iff_ne, beq_eq_false_iff_ne, bne_eq_false_iff_eq, reduceCtorEq, false_and, and_false, true_and, and_true, or_false, false_or, or_true, true_or, not_true_eq_false, not_false_eq_true, Int.toNat_zero] at hc1
              have hh : scan (relE ⟨lv, inf, rel⟩) 0 rel.length = X := by rw [← hs, ← hE]; exact scan_hit (by omega) (by rw [hE]; exact hc1)
              rw [hh]
              conv => whnf
              refine ⟨?_, [], ?_⟩
              · (try conv => whnf)
                (repeat' (first | exact True.intro | exact fun _ h => h | refine inR64_of ?_ ?_ | apply And.intro | refine maxLen_ge ?_)) <;> (first | omega | (dsimp only; omega) | (dsimp only [List.length_cons, List.length_nil]; omega) | (intro hg; rw [hg]; rfl) | (intro hg hh; rw [hg, hh]; rfl) | (intro hg; simp [-List.getD_eq_getElem?_getD, -Int.default_eq_zero] at hg; first | omega | (refine inR64_of ?_ ?_ <;> omega) | (constructor <;> omega)) | (simp [-List.getD_eq_getElem?_getD, -Int.default_eq_zero]; done))
              conv => whnf
              refine ⟨rfl, ?_, trivial, trivial⟩
              all_goals repeat' (first | exact True.intro | refine leF_cons rfl ?_ ?_ | refine leS_cons rfl ?_ ?_ | (show PLe _ _ _ _; conv => whnf) | (show SLe _ _ _ _; conv => whnf) | (show PLeL _ _ _ _; conv => whnf) | apply And.intro | rfl | exact Nat.le_refl _ | exact fun _ _ => rfl | exact rowEq0 _ _)
            · simp only [bif_t, bif_f, decide_eq_true_eq, decide_eq_false_iff_not, Bool.not_eq_true', Bool.not_eq_false', Bool.and_eq_true, Bool.or_eq_true, Bool.and_eq_false_iff, Bool.or_eq_false_iff, beq_iff_eq, bne_iff_ne, beq_eq_false_iff_ne, bne_eq_false_iff_eq, reduceCtorEq, false_and, and_false, true_and, and_true, or_false, false_or, or_true, true_or, not_true_eq_false, not_false_eq_true, Int.toNat_zero] at hc1
              have hE0 : relE ⟨lv, inf, rel⟩ (k + 1) = 0 := by rw [hE]; omega
              have hh : scan (relE ⟨lv, inf, rel⟩) (k + 1 + 1) (rel.length - (k + 1 + 1)) = scan (relE ⟨lv, inf, rel⟩) 0 rel.length := by rw [← hs, scan_step (show 0 < rel.length - (k + 1) by omega) hE0]; congr 1
              conv => whnf
              refine ⟨?_, k + 1 + 1, ⟨by omega, hh, fun j hj2 => ?_⟩, ?_, rfl, rfl, ?_, ?_⟩
              · (try conv => whnf)
                (repeat' (first | exact True.intro | exact fun _ h => h | refine inR64_of ?_ ?_ | apply And.intro | refine maxLen_ge ?_)) <;> (first | omega | (dsimp only; omega) | (dsimp only [List.length_cons, List.length_nil]; omega) | (intro hg; rw [hg]; rfl) | (intro hg hh; rw [hg, hh]; rfl) | (intro hg; simp [-List.getD_eq_getElem?_getD, -Int.default_eq_zero] at hg; first | omega | (refine inR64_of ?_ ?_ <;> omega) | (constructor <;> omega)) | (simp [-List.getD_eq_getElem?_getD, -Int.default_eq_zero]; done))
              · by_cases e : j = k + 1
                · rw [e]; exact hE0
                · exact hall j (by omega)
              · omega
              all_goals repeat' (first | exact True.intro | refine leF_cons rfl ?_ ?_ | refine leS_cons rfl ?_ ?_ | (show PLe _ _ _ _; conv => whnf) | (show SLe _ _ _ _; conv => whnf) | (show PLeL _ _ _ _; conv => whnf) | apply And.intro | rfl | exact Nat.le_refl _ | exact fun _ _ => rfl | exact rowEq0 _ _)
              all_goals first | omega | (rw [hj]; exact fun _ _ => rfl) | (rw [hj]; done) | skip
          · replace hc := of_decide_eq_false hc
            have h0 : rel.length - (k + 1) = 0 := by
              have h : ¬ ((k + 1 : Nat) : Int) < rel.length := hc
              omega
            rw [← hs, h0]
            conv => whnf
            refine ⟨?_, [], ?_⟩
            · (try conv => whnf)
              (repeat' (first | exact True.intro | exact fun _ h => h | refine inR64_of ?_ ?_ | apply And.intro | refine maxLen_ge ?_)) <;> (first | omega | (dsimp only; omega) | (dsimp only [List.length_cons, List.length_nil]; omega) | (intro hg; rw [hg]; rfl) | (intro hg hh; rw [hg, hh]; rfl) | (intro hg; simp [-List.getD_eq_getElem?_getD, -Int.default_eq_zero] at hg; first | omega | (refine inR64_of ?_ ?_ <;> omega) | (constructor <;> omega)) | (simp [-List.getD_eq_getElem?_getD, -Int.default_eq_zero]; done))
            conv => whnf
            refine ⟨rfl, ?_, trivial, trivial⟩
            all_goals repeat' (first | exact True.intro | refine leF_cons rfl ?_ ?_ | refine leS_cons rfl ?_ ?_ | (show PLe _ _ _ _; conv => whnf) | (show SLe _ _ _ _; conv => whnf) | (show PLeL _ _ _ _; conv => whnf) | apply And.intro | rfl | exact Nat.le_refl _ | exact fun _ _ => rfl | exact rowEq0 _ _)
end Pv
end Go.Proofs.YtcfcmafmdpbjoaaDoor

/- LAW 24, THE WALKS: places in ascending numbers. -/
set_option linter.unusedSimpArgs false
set_option linter.unusedVariables false
namespace Go.Proofs.YtcfcmafmdpbjoaaDoor
namespace Pv
def c65 : C := (.seq (.reg [⟨(some 4), 64, none, .mv (.c (.bool false))⟩])
  (.seq (.drw [⟨(some 5), 80, none, .ld 1 false (.t 1)⟩,
    ⟨(some 6), 96, none, .mv (.t 0)⟩,
    ⟨(some 7), 112, none, .ia 1 (.t 5) (.t 6)⟩,
    ⟨(some 8), 128, none, .ld 1 false (.t 7)⟩,
    ⟨(some 9), 144, none, .ld 1 false (.t 2)⟩,
    ⟨(some 10), 160, none, .bi false .gtr (.t 8) (.t 9)⟩,
    ⟨(some 4), 64, none, .mv (.t 10)⟩]
    [(0, 1, 5), (0, 4, 5), (1, 4, 6), (2, 4, 7), (3, 4, 8)])
  .ret))
theorem fits65 : fits Tryd.prog false Tryd.f65 3 11 [(4, none)] = some c65.er := by kernel_rfl
def c64L1 : C := (.seq (.seq (.reg [⟨(some 9), 144, none, .mv (.t 5)⟩,
    ⟨(some 10), 160, none, .mv (.t 6)⟩,
    ⟨(some 11), 176, none, .bi false .lss (.t 9) (.t 10)⟩])
  (.cond (.t 11) .skip (.exit 0)))
  (.block 1 (.seq (.reg [⟨(some 12), 192, none, .mv (.t 5)⟩,
    ⟨(some 13), 208, none, .mv (.t 6)⟩,
    ⟨(some 14), 224, none, .bi false .add (.t 12) (.t 13)⟩,
    ⟨(some 15), 240, none, .cv false .u64 (.t 14)⟩,
    ⟨(some 16), 256, none, .bi false .shr (.t 15) (.c (.int .u64 1))⟩,
    ⟨(some 17), 272, none, .cv false .i64 (.t 16)⟩,
    ⟨(some 7), 112, none, .mv (.t 17)⟩])
  (.seq (.reg [⟨(some 18), 288, none, .mv (.t 1)⟩,
    ⟨(some 19), 304, none, .mv (.t 7)⟩,
    ⟨(some 20), 320, none, .call (.t 18) [(.t 19)]⟩,
    ⟨(some 21), 336, none, .un false .not (.t 20)⟩])
  (.cond (.t 21) (.reg [⟨(some 22), 352, none, .mv (.t 7)⟩,
    ⟨(some 23), 368, none, .bi false .add (.t 22) (.c (.int .i64 1))⟩,
    ⟨(some 5), 80, none, .mv (.t 23)⟩]) (.reg [⟨(some 24), 384, none, .mv (.t 7)⟩,
    ⟨(some 6), 96, none, .mv (.t 24)⟩]))))))
def c64 : C := (.seq (.reg [⟨(some 4), 64, none, .mv (.c (.int .i64 0))⟩])
  (.seq (.reg [⟨(some 8), 128, none, .mv (.t 0)⟩,
    ⟨(some 5), 80, none, .mv (.c (.int .i64 0))⟩,
    ⟨(some 6), 96, none, .mv (.t 8)⟩])
  (.seq (.block 0 (.loop c64L1))
  (.seq (.reg [⟨(some 25), 400, none, .mv (.t 5)⟩,
    ⟨(some 4), 64, none, .mv (.t 25)⟩])
  .ret))))
theorem fits64 : fits Tryd.prog false Tryd.f64 2 26 [(4, none)] = some c64.er := by kernel_rfl
def c54 : C := (.seq (.reg [⟨(some 2), 32, none, .bx 1 (.t 0)⟩,
    ⟨(some 3), 48, none, .bx 1 (.t 1)⟩,
    ⟨(some 4), 64, none, .mv (.c (.int .i64 0))⟩])
  (.seq (.reg [⟨(some 5), 80, none, .ld 1 false (.t 2)⟩,
    ⟨(some 6), 96, none, .len (.t 5)⟩,
    ⟨(some 7), 112, none, .mf (.func 65) [] [(.t 2), (.t 3)]⟩,
    ⟨(some 8), 128, none, .call (.c (.fn (.func 64) [] [])) [(.t 6), (.t 7)]⟩,
    ⟨(some 9), 144, none, .bi false .sub (.t 8) (.c (.int .i64 1))⟩,
    ⟨(some 10), 160, none, .mx [(.c (.int .i64 0)), (.t 9)]⟩,
    ⟨(some 4), 64, none, .mv (.t 10)⟩])
  .ret))
theorem fits54 : fits Tryd.prog false Tryd.f54 2 11 [(4, none)] = some c54.er := by kernel_rfl

theorem inU64_of {n : Int} (h0 : 0 ≤ n) (h1 : n ≤ 18446744073709551615) : inR .u64 n := ⟨h0, h1⟩
/-- The first place from i on where p holds, among k. -/
def fstN (p : Nat → Prop) [DecidablePred p] : Nat → Nat → Nat
  | i, 0 => i
  | i, k + 1 => if p i then i else fstN p (i + 1) k
theorem fstN_eq {p : Nat → Prop} [DecidablePred p] : ∀ {k i r : Nat}, i ≤ r → r ≤ i + k → (∀ j, i ≤ j → j < r → ¬ p j) → (r < i + k → p r) → fstN p i k = r
  | 0, i, r, h1, h2, _, _ => by unfold fstN; omega
  | k + 1, i, r, h1, h2, h3, h4 => by
    unfold fstN
    by_cases h : p i
    · rw [if_pos h]
      rcases Nat.lt_or_ge i r with h5 | h5
      · exact absurd h (h3 i (Nat.le_refl _) h5)
      · omega
    · rw [if_neg h]
      have : i ≠ r := fun e => h (by rw [e]; exact h4 (by omega))
      exact fstN_eq (by omega) (by omega) (fun j h5 h6 => h3 j (by omega) h6) (fun h5 => h4 (by omega))
theorem fstN_le (p : Nat → Prop) [DecidablePred p] : ∀ k i, i ≤ fstN p i k ∧ fstN p i k ≤ i + k
  | 0, i => by unfold fstN; omega
  | k + 1, i => by
    have := fstN_le p k (i + 1)
    unfold fstN; split <;> omega
abbrev bxS (τ : Nat) (l : List Int) (x : Int) : List SE := [.box [.sl (τ + 1) 1 l.length (fl eInt l)], .box [.int .i64 x]]
theorem call65 (τ : Nat) (l : List Int) (x : Int) (i : Nat) (hi : i < l.length) : PureCall Tryd.prog 65 [.int .i64 i, .pt 0 0 0, .pt 1 0 0] (bxS τ l x) ⟨.bool (decide (x < l.getD i default)), bxS τ l x, []⟩ := by
  have hj : ((i : Int)).toNat = i := by omega
  refine pure_call mix Tryd.func65 fits65 rfl ?_
  conv => whnf
  refine ⟨rfl, ?_⟩
  conv => whnf
  refine ⟨?_, [], ?_⟩
  · (try conv => whnf)
    (repeat' (first | exact True.intro | exact fun _ h => h | refine inR64_of ?_ ?_ | apply And.intro | refine maxLen_ge ?_)) <;> (first | omega | (dsimp only; omega) | (dsimp only [List.length_cons, List.length_nil]; omega) | (intro hg; rw [hg]; rfl) | (intro hg hh; rw [hg, hh]; rfl) | (intro hg; simp [-List.getD_eq_getElem?_getD, -Int.default_eq_zero] at hg; first | omega | (refine inR64_of ?_ ?_ <;> omega) | (constructor <;> omega)) | (simp [-List.getD_eq_getElem?_getD, -Int.default_eq_zero]; done))
  conv => whnf
  refine ⟨rfl, ?_, ?_, trivial⟩
  all_goals repeat' (first | exact True.intro | refine leF_cons rfl ?_ ?_ | refine leS_cons rfl ?_ ?_ | (show PLe _ _ _ _; conv => whnf) | (show SLe _ _ _ _; conv => whnf) | (show PLeL _ _ _ _; conv => whnf) | apply And.intro | rfl | exact Nat.le_refl _ | exact fun _ _ => rfl | exact rowEq0 _ _)
  all_goals (try rw [hj])
theorem call64 (τ : Nat) (l : List Int) (x : Int) (hl : l.length ≤ 1000000) (hm : ∀ i j, i ≤ j → j < l.length → x < l.getD i default → x < l.getD j default) :
    PureCall Tryd.prog 64 [.int .i64 l.length, .fn (.func 65) [] [.pt 0 0 0, .pt 1 0 0]] (bxS τ l x) ⟨.int .i64 (fstN (fun i => x < l.getD i default) 0 l.length), bxS τ l x, []⟩ := by
  refine pure_call mix Tryd.func64 fits64 rfl ?_
  conv => whnf
  refine ⟨trivial, ?_⟩
  refine LSem.loop (n := 26) mix (α := Nat × Nat) (fun s => s.1 ≤ s.2 ∧ s.2 ≤ l.length ∧ (∀ j, j < s.1 → ¬ x < l.getD j default) ∧ (s.2 < l.length → x < l.getD s.2 default))
    (fun s => [(0, .int .i64 l.length), (1, .fn (.func 65) [] [.pt 0 0 0, .pt 1 0 0]), (5, .int .i64 s.1), (6, .int .i64 s.2)])
    (fun s => [(0, .box [.sl (τ + 1) 1 l.length (fl eInt l)]), (1, .box [.int .i64 x])]) (fun s => s.2 - s.1) (0, l.length) ?_ ?_ ?_
  · exact ⟨Nat.zero_le _, Nat.le_refl _, fun j hj => by omega, fun h => by dsimp only at h; omega⟩
  · refine ⟨rfl, rfl, ?_, ?_⟩
    all_goals repeat' (first | exact True.intro | refine leF_cons rfl ?_ ?_ | refine leS_cons rfl ?_ ?_ | (show PLe _ _ _ _; conv => whnf) | (show SLe _ _ _ _; conv => whnf) | (show PLeL _ _ _ _; conv => whnf) | apply And.intro | rfl | exact Nat.le_refl _ | exact fun _ _ => rfl | exact rowEq0 _ _)
  · intro s hs
    obtain ⟨i, j⟩ := s
    obtain ⟨h1, h2, h3, h4⟩ := hs
    dsimp only at h1 h2 h3 h4
    conv => whnf
    refine ⟨trivial, fun hc => ?_, fun hc => ?_⟩
    · replace hc := of_decide_eq_true hc
      have hlt : i < j := by
        have h : (i : Int) < j := hc
        omega
      obtain ⟨h, hh⟩ : ∃ h : Nat, ((i : Int) + (j : Int)) / 2 = h := ⟨(i + j) / 2, by omega⟩
      have hh1 : i ≤ h ∧ h < j := by omega
      conv => whnf
      rw [hh]
      refine ⟨_, fun _ => call65 τ l x h (by omega), ?_⟩
      conv => whnf
      refine ⟨?_, fun hc2 => ?_, fun hc2 => ?_⟩
      · (try conv => whnf)
        (repeat' (first | exact True.intro | exact fun _ h => h | rfl | refine inR64_of ?_ ?_ | refine inU64_of ?_ ?_ | apply And.intro)) <;> (first | omega | (dsimp only; omega))
      · have hp : ¬ x < l.getD h default := by simpa using hc2
        conv => whnf
        refine ⟨?_, (h + 1, j), ⟨by dsimp only; omega, h2, fun k hk => ?_, h4⟩, ?_, rfl, rfl, ?_, ?_⟩
        · (try conv => whnf)
          (repeat' (first | exact True.intro | exact fun _ h => h | refine inR64_of ?_ ?_ | apply And.intro | refine maxLen_ge ?_)) <;> (first | omega | (dsimp only; omega) | (dsimp only [List.length_cons, List.length_nil]; omega) | (intro hg; rw [hg]; rfl) | (intro hg hh; rw [hg, hh]; rfl) | (intro hg; simp [-List.getD_eq_getElem?_getD, -Int.default_eq_zero] at hg; first | omega | (refine inR64_of ?_ ?_ <;> omega) | (constructor <;> omega)) | (simp [-List.getD_eq_getElem?_getD, -Int.default_eq_zero]; done))
        · intro hk2
          dsimp only at hk
          exact hp (hm k h (by omega) (by omega) hk2)
        · dsimp only; omega
        all_goals repeat' (first | exact True.intro | refine leF_cons rfl ?_ ?_ | refine leS_cons rfl ?_ ?_ | (show PLe _ _ _ _; conv => whnf) | (show SLe _ _ _ _; conv => whnf) | (show PLeL _ _ _ _; conv => whnf) | apply And.intro | rfl | exact Nat.le_refl _ | exact fun _ _ => rfl | exact rowEq0 _ _)
        all_goals first | omega | (rw [hh]; rfl) | (rw [hh]; dsimp only; omega) | skip
      · have hp : x < l.getD h default := by simpa using hc2
        conv => whnf
        refine ⟨?_, (i, h), ⟨by dsimp only; omega, by dsimp only; omega, h3, fun _ => hp⟩, ?_, rfl, rfl, ?_, ?_⟩
        · (try conv => whnf)
          (repeat' (first | exact True.intro | exact fun _ h => h | refine inR64_of ?_ ?_ | apply And.intro | refine maxLen_ge ?_)) <;> (first | omega | (dsimp only; omega) | (dsimp only [List.length_cons, List.length_nil]; omega) | (intro hg; rw [hg]; rfl) | (intro hg hh; rw [hg, hh]; rfl) | (intro hg; simp [-List.getD_eq_getElem?_getD, -Int.default_eq_zero] at hg; first | omega | (refine inR64_of ?_ ?_ <;> omega) | (constructor <;> omega)) | (simp [-List.getD_eq_getElem?_getD, -Int.default_eq_zero]; done))
        · dsimp only; omega
        all_goals repeat' (first | exact True.intro | refine leF_cons rfl ?_ ?_ | refine leS_cons rfl ?_ ?_ | (show PLe _ _ _ _; conv => whnf) | (show SLe _ _ _ _; conv => whnf) | (show PLeL _ _ _ _; conv => whnf) | apply And.intro | rfl | exact Nat.le_refl _ | exact fun _ _ => rfl | exact rowEq0 _ _)
        all_goals first | omega | (rw [hh]; done) | skip
    · replace hc := of_decide_eq_false hc
      have hge : i = j := by
        have h : ¬ (i : Int) < j := hc
        omega
      subst hge
      rw [show fstN (fun i => x < l.getD i default) 0 l.length = i from fstN_eq (Nat.zero_le _) (by omega) (fun k _ h => h3 k h) (fun h => h4 (by omega))]
      conv => whnf
      refine ⟨?_, [], ?_⟩
      · (try conv => whnf)
        (repeat' (first | exact True.intro | exact fun _ h => h | refine inR64_of ?_ ?_ | apply And.intro | refine maxLen_ge ?_)) <;> (first | omega | (dsimp only; omega) | (dsimp only [List.length_cons, List.length_nil]; omega) | (intro hg; rw [hg]; rfl) | (intro hg hh; rw [hg, hh]; rfl) | (intro hg; simp [-List.getD_eq_getElem?_getD, -Int.default_eq_zero] at hg; first | omega | (refine inR64_of ?_ ?_ <;> omega) | (constructor <;> omega)) | (simp [-List.getD_eq_getElem?_getD, -Int.default_eq_zero]; done))
      conv => whnf
      refine ⟨rfl, ?_, ?_, ?_⟩
      all_goals repeat' (first | exact True.intro | refine leF_cons rfl ?_ ?_ | refine leS_cons rfl ?_ ?_ | (show PLe _ _ _ _; conv => whnf) | (show SLe _ _ _ _; conv => whnf) | (show PLeL _ _ _ _; conv => whnf) | apply And.intro | rfl | exact Nat.le_refl _ | exact fun _ _ => rfl | exact rowEq0 _ _)
/-- The place of a number in ascending numbers: that of the last number that is at most x, 0 if there is none. -/
def placeF (l : List Int) (x : Int) : Int := mx 0 ((fstN (fun i => x < l.getD i default) 0 l.length : Int) - 1)
theorem call54 (τ : Nat) (l : List Int) (x : Int) (hl : l.length ≤ 1000000) (hm : ∀ i j, i ≤ j → j < l.length → x < l.getD i default → x < l.getD j default) :
    PureCall Tryd.prog 54 [.sl (τ + 1) 1 l.length (fl eInt l), .int .i64 x] [] ⟨.int .i64 (placeF l x), [], []⟩ := by
  refine pure_call mix Tryd.func54 fits54 rfl ?_
  conv => whnf
  refine ⟨_, fun _ => call64 τ l x hl hm, ?_⟩
  have hr := fstN_le (fun i => x < l.getD i default) l.length 0
  unfold placeF
  generalize fstN (fun i => x < l.getD i default) 0 l.length = r at hr ⊢
  conv => whnf
  refine ⟨?_, [], ?_⟩
  · (try conv => whnf)
    (repeat' (first | exact True.intro | exact fun _ h => h | refine inR64_of ?_ ?_ | apply And.intro | refine maxLen_ge ?_)) <;> (first | omega | (dsimp only; omega) | (dsimp only [List.length_cons, List.length_nil]; omega) | (intro hg; rw [hg]; rfl) | (intro hg hh; rw [hg, hh]; rfl) | (intro hg; simp [-List.getD_eq_getElem?_getD, -Int.default_eq_zero] at hg; first | omega | (refine inR64_of ?_ ?_ <;> omega) | (constructor <;> omega)) | (simp [-List.getD_eq_getElem?_getD, -Int.default_eq_zero]; done))
  conv => whnf
  refine ⟨rfl, ?_, trivial, trivial⟩
  all_goals repeat' (first | exact True.intro | refine leF_cons rfl ?_ ?_ | refine leS_cons rfl ?_ ?_ | (show PLe _ _ _ _; conv => whnf) | (show SLe _ _ _ _; conv => whnf) | (show PLeL _ _ _ _; conv => whnf) | apply And.intro | rfl | exact Nat.le_refl _ | exact fun _ _ => rfl | exact rowEq0 _ _)
end Pv
end Go.Proofs.YtcfcmafmdpbjoaaDoor

/- LAW 24, THE WALKS: releases. -/
set_option linter.unusedSimpArgs false
set_option linter.unusedVariables false
namespace Go.Proofs.YtcfcmafmdpbjoaaDoor
namespace Pv
def c39 : C := (.seq (.reg [⟨(some 3), 48, none, .bx 3 (.t 0)⟩,
    ⟨(some 6), 96, none, .mv (.c (.int .i64 0))⟩])
  (.seq (.drw [⟨(some 7), 112, none, .fa 2 (.t 3)⟩,
    ⟨(some 8), 128, none, .ld 1 false (.t 7)⟩,
    ⟨(some 9), 144, none, .fa 0 (.t 3)⟩,
    ⟨(some 10), 160, none, .ld 1 false (.t 9)⟩,
    ⟨(some 11), 176, none, .mv (.t 1)⟩,
    ⟨(some 12), 192, none, .call (.c (.fn (.func 54) [] [])) [(.t 10), (.t 11)]⟩,
    ⟨(some 13), 208, none, .ia 1 (.t 8) (.t 12)⟩,
    ⟨(some 14), 224, none, .ld 1 false (.t 13)⟩,
    ⟨(some 15), 240, none, .fa 1 (.t 3)⟩,
    ⟨(some 16), 256, none, .ld 1 false (.t 15)⟩,
    ⟨(some 17), 272, none, .mv (.t 2)⟩,
    ⟨(some 18), 288, none, .call (.c (.fn (.func 54) [] [])) [(.t 16), (.t 17)]⟩,
    ⟨(some 19), 304, none, .ia 1 (.t 14) (.t 18)⟩,
    ⟨(some 20), 320, none, .ld 1 false (.t 19)⟩,
    ⟨(some 6), 96, none, .mv (.t 20)⟩]
    [(0, 2, 7), (0, 3, 7), (0, 4, 7), (0, 5, 7), (0, 8, 7), (0, 9, 7), (0, 10, 7), (0, 11, 7), (1, 2, 8), (1, 3, 8), (1, 4, 8), (1, 5, 8), (1, 8, 8), (1, 9, 8), (1, 10, 8), (1, 11, 8), (2, 4, 9), (2, 8, 9), (2, 9, 9), (2, 10, 9), (3, 4, 10), (3, 8, 10), (3, 9, 10), (3, 10, 10), (4, 8, 11), (4, 9, 11), (4, 10, 11), (5, 8, 12), (5, 9, 12), (5, 10, 12), (6, 8, 13), (6, 9, 13), (6, 10, 13), (6, 11, 13), (7, 8, 14), (7, 9, 14), (7, 10, 14), (7, 11, 14), (8, 10, 15), (9, 10, 16)])
  .ret))
theorem fits39 : fits Tryd.prog false Tryd.f39 3 21 [(6, none)] = some c39.er := by kernel_rfl
def c19 : C := (.seq (.reg [⟨(some 3), 48, none, .bx 3 (.t 0)⟩,
    ⟨(some 6), 96, none, .mv (.c (.int .i64 0))⟩,
    ⟨(some 7), 112, none, .mv (.c (.int .i64 0))⟩])
  (.seq (.seq (.reg [⟨(some 9), 144, none, .ld 3 true (.t 3)⟩,
    ⟨(some 10), 160, none, .call (.c (.fn (.func 22) [] [])) [(.t 9)]⟩,
    ⟨(some 8), 128, none, .mv (.t 10)⟩])
  (.seq (.reg [⟨(some 11), 176, none, .mv (.t 8)⟩,
    ⟨(some 12), 192, none, .bi false .neq (.t 11) (.c (.int .i64 0))⟩])
  (.cond (.t 12) (.seq (.reg [⟨(some 13), 208, none, .mv (.t 8)⟩,
    ⟨(some 6), 96, none, .mv (.c (.int .i64 0))⟩,
    ⟨(some 7), 112, none, .mv (.t 13)⟩])
  .ret) .skip)))
  (.seq (.seq (.reg [⟨(some 14), 224, none, .mv (.t 1)⟩,
    ⟨(some 15), 240, none, .bi false .lss (.t 14) (.c (.int .i64 0))⟩,
    ⟨(some 16), 256, none, .mv (.t 15)⟩,
    ⟨(some 17), 272, (some (16, false)), .mv (.t 1)⟩,
    ⟨(some 18), 288, (some (16, false)), .bi false .gtr (.t 17) (.c (.int .i64 16777216))⟩,
    ⟨(some 19), 304, none, .pick (.t 16) (.c (.bool true)) (.t 18)⟩,
    ⟨(some 20), 320, none, .mv (.t 19)⟩,
    ⟨(some 21), 336, (some (20, false)), .mv (.t 2)⟩,
    ⟨(some 22), 352, (some (20, false)), .bi false .lss (.t 21) (.c (.int .i64 0))⟩,
    ⟨(some 23), 368, none, .pick (.t 20) (.c (.bool true)) (.t 22)⟩,
    ⟨(some 24), 384, none, .mv (.t 23)⟩,
    ⟨(some 25), 400, (some (24, false)), .mv (.t 2)⟩,
    ⟨(some 26), 416, (some (24, false)), .bi false .gtr (.t 25) (.c (.int .i64 1073741824))⟩,
    ⟨(some 27), 432, none, .pick (.t 24) (.c (.bool true)) (.t 26)⟩])
  (.cond (.t 27) (.seq (.reg [⟨(some 6), 96, none, .mv (.c (.int .i64 0))⟩,
    ⟨(some 7), 112, none, .mv (.c (.int .i64 1))⟩])
  .ret) .skip))
  (.seq (.reg [⟨(some 28), 448, none, .ld 3 true (.t 3)⟩,
    ⟨(some 29), 464, none, .mv (.t 1)⟩,
    ⟨(some 30), 480, none, .mv (.t 2)⟩,
    ⟨(some 31), 496, none, .call (.c (.fn (.func 39) [] [])) [(.t 28), (.t 29), (.t 30)]⟩,
    ⟨(some 6), 96, none, .mv (.t 31)⟩,
    ⟨(some 7), 112, none, .mv (.c (.int .i64 0))⟩])
  .ret))))
theorem fits19 : fits Tryd.prog false Tryd.f19 3 32 [(6, none), (7, none)] = some c19.er := by kernel_rfl

def atF (t : FT) (level inflow : Int) : Int := (t.rel.getD (placeF t.lv level).toNat default).getD (placeF t.inf inflow).toNat default
theorem place_rng {l : List Int} (x : Int) (h : 0 < l.length) : 0 ≤ placeF l x ∧ (placeF l x).toNat < l.length := by
  have hr := fstN_le (fun i => x < l.getD i default) l.length 0
  unfold placeF mx
  split <;> omega
theorem rise_mono {l : List Int} {most : Int} (h : ∀ i, i < l.length → riseE l most i = 0) : ∀ (k i : Nat), i + k < l.length → l.getD i default ≤ l.getD (i + k) default
  | 0, i, _ => Int.le_refl _
  | k + 1, i, hk => by
    have h1 := rise_mono h k i (by omega)
    have h2 := h (i + (k + 1)) hk
    unfold riseE at h2
    split at h2
    · cases h2
    · split at h2
      · cases h2
      · rename_i h4
        rw [show i + (k + 1) - 1 = i + k by omega] at h4
        omega
/-- A valid table, in words that the walks use. -/
structure TabOK (t : FT) : Prop where
  l1 : 1 ≤ t.lv.length ∧ t.lv.length ≤ 20
  l2 : 1 ≤ t.inf.length ∧ t.inf.length ≤ 20
  r1 : ∀ i, i < t.lv.length → riseE t.lv 16777216 i = 0
  r2 : ∀ i, i < t.inf.length → riseE t.inf 1073741824 i = 0
  l3 : t.rel.length = t.lv.length
  e3 : ∀ i, i < t.rel.length → relE t i = 0
theorem check_ok {t : FT} (h : checkF t = 0) : TabOK t := by
  unfold checkF at h
  split at h
  · cases h
  · rename_i h1
    split at h
    · rename_i h2; exact absurd h h2
    · rename_i h2
      split at h
      · rename_i h3; exact absurd h h3
      · rename_i h3
        split at h
        · cases h
        · rename_i h4
          have z1 := scan_zero (show scan (riseE t.lv 16777216) 0 t.lv.length = 0 by omega)
          have z2 := scan_zero (show scan (riseE t.inf 1073741824) 0 t.inf.length = 0 by omega)
          have z3 := scan_zero h
          exact ⟨by omega, by omega, fun i hi => z1 i (Nat.zero_le _) (by omega), fun i hi => z2 i (Nat.zero_le _) (by omega), by omega, fun i hi => z3 i (Nat.zero_le _) (by omega)⟩
theorem TabOK.row {t : FT} (h : TabOK t) {i : Nat} (hi : i < t.rel.length) : (t.rel.getD i default).length = t.inf.length := by
  have := rowF_len (h.e3 i hi); omega
theorem TabOK.m1 {t : FT} (h : TabOK t) (x : Int) : ∀ i j, i ≤ j → j < t.lv.length → x < t.lv.getD i default → x < t.lv.getD j default := fun i j h1 h2 h3 => by
  have := rise_mono h.r1 (j - i) i (by omega)
  rw [show i + (j - i) = j by omega] at this; omega
theorem TabOK.m2 {t : FT} (h : TabOK t) (x : Int) : ∀ i j, i ≤ j → j < t.inf.length → x < t.inf.getD i default → x < t.inf.getD j default := fun i j h1 h2 h3 => by
  have := rise_mono h.r2 (j - i) i (by omega)
  rw [show i + (j - i) = j by omega] at this; omega

set_option maxRecDepth 100000 in
set_option maxHeartbeats 4000000 in
theorem call39 (τ σ : Nat) (t : FT) (level inflow : Int) (ht : TabOK t) : PureCall Tryd.prog 39 [.agg (eFT (τ + 1) σ t), .int .i64 level, .int .i64 inflow] [] ⟨.int .i64 (atF t level inflow), [], []⟩ := by
  have hl1 := ht.l1
  have hl2 := ht.l2
  have p1 := place_rng level (l := t.lv) (by omega)
  have p2 := place_rng inflow (l := t.inf) (by omega)
  have hrow := ht.row (i := (placeF t.lv level).toNat) (by rw [ht.l3]; exact p1.2)
  have hl3 := ht.l3
  refine pure_call mix Tryd.func39 fits39 rfl ?_
  conv => whnf
  refine ⟨_, fun _ => call54 τ t.lv level (by omega) (ht.m1 level), ?_⟩
  conv => whnf
  refine ⟨_, fun _ => call54 τ t.inf inflow (by omega) (ht.m2 inflow), ?_⟩
  unfold atF
  generalize placeF t.lv level = a at p1 hrow ⊢
  generalize placeF t.inf inflow = b at p2 ⊢
  conv => whnf
  refine ⟨rfl, ?_⟩
  conv => whnf
  refine ⟨?_, [], ?_⟩
  · (try conv => whnf)
    (repeat' (first | exact True.intro | exact fun _ h => h | refine inR64_of ?_ ?_ | apply And.intro | refine maxLen_ge ?_)) <;> (first | omega | (dsimp only; omega) | (dsimp only [List.length_cons, List.length_nil]; omega) | (intro hg; rw [hg]; rfl) | (intro hg hh; rw [hg, hh]; rfl) | (intro hg; simp [-List.getD_eq_getElem?_getD, -Int.default_eq_zero] at hg; first | omega | (refine inR64_of ?_ ?_ <;> omega) | (constructor <;> omega)) | (simp [-List.getD_eq_getElem?_getD, -Int.default_eq_zero]; done))
  conv => whnf
  refine ⟨rfl, ?_, trivial, trivial⟩
  all_goals repeat' (first | exact True.intro | refine leF_cons rfl ?_ ?_ | refine leS_cons rfl ?_ ?_ | (show PLe _ _ _ _; conv => whnf) | (show SLe _ _ _ _; conv => whnf) | (show PLeL _ _ _ _; conv => whnf) | apply And.intro | rfl | exact Nat.le_refl _ | exact fun _ _ => rfl | exact rowEq0 _ _)

def relF (t : FT) (level inflow : Int) : Int × Int :=
  if checkF t ≠ 0 then (0, checkF t) else if level < 0 ∨ 16777216 < level ∨ inflow < 0 ∨ 1073741824 < inflow then (0, 1) else (atF t level inflow, 0)
set_option maxRecDepth 100000 in
set_option maxHeartbeats 4000000 in
theorem call19 (τ σ : Nat) (t : FT) (level inflow : Int) (h1 : t.lv.length ≤ 4611686018427387904) (h2 : t.inf.length ≤ 4611686018427387904) (h3 : t.rel.length ≤ 4611686018427387904) (h4 : ∀ i, i < t.rel.length → (t.rel.getD i default).length ≤ 4611686018427387904) :
    PureCall Tryd.prog 19 [.agg (eFT (τ + 1) σ t), .int .i64 level, .int .i64 inflow] [] ⟨.tup [.int .i64 (relF t level inflow).1, .int .i64 (relF t level inflow).2], [], []⟩ := by
  refine pure_call mix Tryd.func19 fits19 rfl ?_
  conv => whnf
  refine ⟨_, fun _ => call22 (τ + 1) σ t h1 h2 h3 h4, ?_⟩
  have hok := check_ok (t := t)
  unfold relF
  generalize checkF t = E at hok ⊢
  conv => whnf
  refine ⟨?_, fun hc => ?_, fun hc => ?_⟩
  · (try conv => whnf)
    (repeat' (first | exact True.intro | exact fun _ h => h | refine inR64_of ?_ ?_ | apply And.intro | refine maxLen_ge ?_)) <;> (first | omega | (dsimp only; omega) | (dsimp only [List.length_cons, List.length_nil]; omega) | (intro hg; rw [hg]; rfl) | (intro hg hh; rw [hg, hh]; rfl) | (intro hg; simp [-List.getD_eq_getElem?_getD, -Int.default_eq_zero] at hg; first | omega | (refine inR64_of ?_ ?_ <;> omega) | (constructor <;> omega)) | (simp [-List.getD_eq_getElem?_getD, -Int.default_eq_zero]; done))
  · simp only [bif_t, bif_f, decide_eq_true_eq, decide_eq_false_iff_not, Bool.not_eq_true', Bool.not_eq_false', Bool.and_eq_true, Bool.or_eq_true, Bool.and_eq_false_iff, Bool.or_eq_false_iff, beq_iff_eq, bne_iff_ne, beq_eq_false_iff_ne, bne_eq_false_iff_eq, reduceCtorEq, false_and, and_false, true_and, and_true, or_false, false_or, or_true, true_or, not_true_eq_false, not_false_eq_true, Int.toNat_zero] at hc
    rw [if_pos hc]
    conv => whnf
    refine ⟨?_, [], ?_⟩
    · (try conv => whnf)
      (repeat' (first | exact True.intro | exact fun _ h => h | refine inR64_of ?_ ?_ | apply And.intro | refine maxLen_ge ?_)) <;> (first | omega | (dsimp only; omega) | (dsimp only [List.length_cons, List.length_nil]; omega) | (intro hg; rw [hg]; rfl) | (intro hg hh; rw [hg, hh]; rfl) | (intro hg; simp [-List.getD_eq_getElem?_getD, -Int.default_eq_zero] at hg; first | omega | (refine inR64_of ?_ ?_ <;> omega) | (constructor <;> omega)) | (simp [-List.getD_eq_getElem?_getD, -Int.default_eq_zero]; done))
    conv => whnf
    refine ⟨rfl, ?_, trivial, trivial⟩
    all_goals repeat' (first | exact True.intro | refine leF_cons rfl ?_ ?_ | refine leS_cons rfl ?_ ?_ | (show PLe _ _ _ _; conv => whnf) | (show SLe _ _ _ _; conv => whnf) | (show PLeL _ _ _ _; conv => whnf) | apply And.intro | rfl | exact Nat.le_refl _ | exact fun _ _ => rfl | exact rowEq0 _ _)
  simp only [bif_t, bif_f, decide_eq_true_eq, decide_eq_false_iff_not, Bool.not_eq_true', Bool.not_eq_false', Bool.and_eq_true, Bool.or_eq_true, Bool.and_eq_false_iff, Bool.or_eq_false_iff, beq_iff_eq, bne_iff_ne, beq_eq_false_iff_ne, bne_eq_false_iff_eq, reduceCtorEq, false_and, and_false, true_and, and_true, or_false, false_or, or_true, true_or, not_true_eq_false, not_false_eq_true, Int.toNat_zero] at hc
  rw [if_neg (by omega)]
  have ht := hok (by omega)
  conv => whnf
  refine ⟨?_, fun hc2 => ?_, fun hc2 => ?_⟩
  · (try conv => whnf)
    (repeat' (first | exact True.intro | exact fun _ h => h | refine inR64_of ?_ ?_ | apply And.intro | refine maxLen_ge ?_)) <;> (first | omega | (dsimp only; omega) | (dsimp only [List.length_cons, List.length_nil]; omega) | (intro hg; rw [hg]; rfl) | (intro hg hh; rw [hg, hh]; rfl) | (intro hg; simp [-List.getD_eq_getElem?_getD, -Int.default_eq_zero] at hg; first | omega | (refine inR64_of ?_ ?_ <;> omega) | (constructor <;> omega)) | (simp [-List.getD_eq_getElem?_getD, -Int.default_eq_zero]; done))
  · simp only [bif_t, bif_f, decide_eq_true_eq, decide_eq_false_iff_not, Bool.not_eq_true', Bool.not_eq_false', Bool.and_eq_true, Bool.or_eq_true, Bool.and_eq_false_iff, Bool.or_eq_false_iff, beq_iff_eq, bne_iff_ne, beq_eq_false_iff_ne, bne_eq_false_iff_eq, reduceCtorEq, false_and, and_false, true_and, and_true, or_false, false_or, or_true, true_or, not_true_eq_false, not_false_eq_true, Int.toNat_zero] at hc2
    rw [if_pos (by omega)]
    conv => whnf
    refine ⟨?_, [], ?_⟩
    · (try conv => whnf)
      (repeat' (first | exact True.intro | exact fun _ h => h | refine inR64_of ?_ ?_ | apply And.intro | refine maxLen_ge ?_)) <;> (first | omega | (dsimp only; omega) | (dsimp only [List.length_cons, List.length_nil]; omega) | (intro hg; rw [hg]; rfl) | (intro hg hh; rw [hg, hh]; rfl) | (intro hg; simp [-List.getD_eq_getElem?_getD, -Int.default_eq_zero] at hg; first | omega | (refine inR64_of ?_ ?_ <;> omega) | (constructor <;> omega)) | (simp [-List.getD_eq_getElem?_getD, -Int.default_eq_zero]; done))
    conv => whnf
    refine ⟨rfl, ?_, trivial, trivial⟩
    all_goals repeat' (first | exact True.intro | refine leF_cons rfl ?_ ?_ | refine leS_cons rfl ?_ ?_ | (show PLe _ _ _ _; conv => whnf) | (show SLe _ _ _ _; conv => whnf) | (show PLeL _ _ _ _; conv => whnf) | apply And.intro | rfl | exact Nat.le_refl _ | exact fun _ _ => rfl | exact rowEq0 _ _)
  simp only [bif_t, bif_f, decide_eq_true_eq, decide_eq_false_iff_not, Bool.not_eq_true', Bool.not_eq_false', Bool.and_eq_true, Bool.or_eq_true, Bool.and_eq_false_iff, Bool.or_eq_false_iff, beq_iff_eq, bne_iff_ne, beq_eq_false_iff_ne, bne_eq_false_iff_eq, reduceCtorEq, false_and, and_false, true_and, and_true, or_false, false_or, or_true, true_or, not_true_eq_false, not_false_eq_true, Int.toNat_zero] at hc2
  rw [if_neg (by omega)]
  conv => whnf
  refine ⟨_, fun _ => call39 τ σ t level inflow ht, ?_⟩
  conv => whnf
  refine ⟨?_, [], ?_⟩
  · (try conv => whnf)
    (repeat' (first | exact True.intro | exact fun _ h => h | refine inR64_of ?_ ?_ | apply And.intro | refine maxLen_ge ?_)) <;> (first | omega | (dsimp only; omega) | (dsimp only [List.length_cons, List.length_nil]; omega) | (intro hg; rw [hg]; rfl) | (intro hg hh; rw [hg, hh]; rfl) | (intro hg; simp [-List.getD_eq_getElem?_getD, -Int.default_eq_zero] at hg; first | omega | (refine inR64_of ?_ ?_ <;> omega) | (constructor <;> omega)) | (simp [-List.getD_eq_getElem?_getD, -Int.default_eq_zero]; done))
  conv => whnf
  refine ⟨rfl, ?_, trivial, trivial⟩
  all_goals repeat' (first | exact True.intro | refine leF_cons rfl ?_ ?_ | refine leS_cons rfl ?_ ?_ | (show PLe _ _ _ _; conv => whnf) | (show SLe _ _ _ _; conv => whnf) | (show PLeL _ _ _ _; conv => whnf) | apply And.intro | rfl | exact Nat.le_refl _ | exact fun _ _ => rfl | exact rowEq0 _ _)
end Pv
end Go.Proofs.YtcfcmafmdpbjoaaDoor

/- LAW 24, THE WALKS: made tables: levels and inflows. -/
set_option linter.unusedSimpArgs false
set_option linter.unusedVariables false
namespace Go.Proofs.YtcfcmafmdpbjoaaDoor
namespace Pv
def c26L1 : C := (.seq (.seq (.reg [⟨(some 17), 272, none, .mv (.t 9)⟩,
    ⟨(some 18), 288, none, .bi false .geq (.t 17) (.c (.int .i64 0))⟩])
  (.cond (.t 18) .skip (.exit 0)))
  (.seq (.block 1 (.seq (.reg [⟨(some 21), 336, none, .mv (.t 7)⟩,
    ⟨(some 22), 352, none, .mv (.t 8)⟩,
    ⟨(some 23), 368, none, .bs 3 1 [(.t 22)]⟩,
    ⟨(some 24), 384, none, .app 3 1 8 (.t 21) (.t 23)⟩,
    ⟨(some 7), 112, none, .mv (.t 24)⟩])
  (.reg [⟨(some 25), 400, none, .mv (.t 8)⟩,
    ⟨(some 26), 416, none, .mv (.t 0)⟩,
    ⟨(some 27), 432, none, .mv (.t 2)⟩,
    ⟨(some 28), 448, none, .call (.c (.fn (.func 27) [] [])) [(.t 26), (.t 27)]⟩,
    ⟨(some 29), 464, none, .bi false .add (.c (.int .i64 1)) (.t 28)⟩,
    ⟨(some 30), 480, none, .bi false .add (.t 25) (.t 29)⟩,
    ⟨(some 8), 128, none, .mv (.t 30)⟩])))
  (.reg [⟨(some 19), 304, none, .mv (.t 9)⟩,
    ⟨(some 20), 320, none, .bi false .sub (.t 19) (.c (.int .i64 1))⟩,
    ⟨(some 9), 144, none, .mv (.t 20)⟩])))
def c26 : C := (.seq (.reg [⟨(some 6), 96, none, .mv (.c (.nil 1))⟩])
  (.seq (.reg [⟨(some 7), 112, none, .mv (.c (.nil 1))⟩])
  (.seq (.reg [⟨(some 10), 160, none, .mv (.t 1)⟩,
    ⟨(some 11), 176, none, .mv (.t 0)⟩,
    ⟨(some 12), 192, none, .mv (.t 2)⟩,
    ⟨(some 13), 208, none, .call (.c (.fn (.func 27) [] [])) [(.t 11), (.t 12)]⟩,
    ⟨(some 14), 224, none, .bi false .add (.t 10) (.t 13)⟩,
    ⟨(some 8), 128, none, .mv (.t 14)⟩])
  (.seq (.seq (.reg [⟨(some 15), 240, none, .mv (.t 0)⟩,
    ⟨(some 16), 256, none, .call (.c (.fn (.func 27) [] [])) [(.t 15), (.c (.int .i64 4))]⟩,
    ⟨(some 9), 144, none, .mv (.t 16)⟩])
  (.block 0 (.loop c26L1)))
  (.seq (.reg [⟨(some 31), 496, none, .mv (.t 7)⟩,
    ⟨(some 6), 96, none, .mv (.t 31)⟩])
  .ret)))))
theorem fits26 : fits Tryd.prog false Tryd.f26 3 32 [(6, none)] = some c26.er := by kernel_rfl

structure Axs where
  l : List Int
  x : Int
  d : Dk
def axN (step : Int) (s : Axs) : Axs := ⟨s.l ++ [s.x], s.x + (1 + nxt s.d step), nxtD s.d step⟩
def axI (step : Int) : Nat → Axs → Axs
  | 0, s => s
  | k + 1, s => axI step k (axN step s)
def axisS (d : Dk) (start step : Int) : Axs := axI step ((nxt (nxtD d step) 4).toNat + 1) ⟨[], start + nxt d step, nxtD (nxtD d step) 4⟩

set_option maxRecDepth 100000 in
set_option maxHeartbeats 4000000 in
theorem call26 (d : Dk) (start step : Int) (hd : d.at_ ≤ 1000000) (h1 : 0 ≤ start ∧ start ≤ 1000) (h2 : 1 ≤ step ∧ step ≤ 1000) : PureCall Tryd.prog 26 [.pt 0 0 0, .int .i64 start, .int .i64 step] [.box (eDk 1 d)]
    ⟨.sl 0 1 (axisS d start step).l.length (fl eInt (axisS d start step).l), [.box (eDk 1 (axisS d start step).d)], []⟩ := by
  refine pure_call mix Tryd.func26 fits26 rfl ?_
  conv => whnf
  have r1 := nxt_lt d (n := step) (by omega)
  have a1 := nxtD_at d step
  refine ⟨_, fun _ => call_next 1 d step (by omega) (by omega), ?_⟩
  conv => whnf
  have r2 := nxt_lt (nxtD d step) (n := 4) (by omega)
  have a2 := nxtD_at (nxtD d step) 4
  refine ⟨_, fun _ => call_next 1 (nxtD d step) 4 (by omega) (by omega), ?_⟩
  conv => whnf
  refine ⟨?_, ?_⟩
  · (try conv => whnf)
    (repeat' (first | exact True.intro | exact fun _ h => h | refine inR64_of ?_ ?_ | apply And.intro | refine maxLen_ge ?_)) <;> (first | omega | (dsimp only; omega) | (dsimp only [List.length_cons, List.length_nil]; omega) | (intro hg; rw [hg]; rfl) | (intro hg hh; rw [hg, hh]; rfl) | (intro hg; simp [-List.getD_eq_getElem?_getD, -Int.default_eq_zero] at hg; first | omega | (refine inR64_of ?_ ?_ <;> omega) | (constructor <;> omega)) | (simp [-List.getD_eq_getElem?_getD, -Int.default_eq_zero]; done))
  refine LSem.adopt 7 1000000 3 1 1 rfl rfl ?_
  refine LSem.loop (n := 32) mix (α := Nat × Axs) (fun s => s.1 ≤ 4 ∧ axI step s.1 s.2 = axisS d start step ∧ s.2.l.length + s.1 ≤ 4 ∧ s.2.d.at_ + s.1 ≤ 1000010 ∧ 0 ≤ s.2.x ∧ s.2.x + 2000 * (s.1 : Int) ≤ 20000)
    (fun s => [(0, .pt 0 0 0), (2, .int .i64 step), (7, .os 1000000), (8, .int .i64 s.2.x), (9, .int .i64 ((s.1 : Int) - 1))])
    (fun s => [(0, .box (eDk 1 s.2.d)), (1000000, .row 0 3 1 s.2.l.length (fl eInt s.2.l))]) (fun s => s.1) ((nxt (nxtD d step) 4).toNat + 1, ⟨[], start + nxt d step, nxtD (nxtD d step) 4⟩) ?_ ?_ ?_
  · refine ⟨by dsimp only; omega, rfl, ?_, ?_, ?_, ?_⟩ <;> dsimp only
    · rw [List.length_nil]; omega
    · omega
    · omega
    · omega
  · refine ⟨rfl, rfl, ?_, ?_⟩
    all_goals repeat' (first | exact True.intro | refine leF_cons rfl ?_ ?_ | refine leS_cons rfl ?_ ?_ | (show PLe _ _ _ _; conv => whnf) | (show SLe _ _ _ _; conv => whnf) | (show PLeL _ _ _ _; conv => whnf) | apply And.intro | rfl | exact Nat.le_refl _ | exact fun _ _ => rfl | exact rowEq0 _ _)
    all_goals first | omega | (dsimp only; omega) | skip
  · intro s hs
    obtain ⟨k, l, x, e⟩ := s
    obtain ⟨k1, k2, k3, k4, k5, k6⟩ := hs
    dsimp only at k1 k2 k3 k4 k5 k6
    conv => whnf
    refine ⟨trivial, fun hc => ?_, fun hc => ?_⟩
    · replace hc := of_decide_eq_true hc
      have hk : 0 < k := by
        have h : (0 : Int) ≤ (k : Int) - 1 := hc
        omega
      have r3 := nxt_lt e (n := step) (by omega)
      have a3 := nxtD_at e step
      have q := fl_push eInt l x
      conv => whnf
      refine ⟨_, fun _ => call_next 1 e step (by omega) (by omega), ?_⟩
      conv => whnf
      refine ⟨?_, (k - 1, axN step ⟨l, x, e⟩), ⟨?_, ?_, ?_, ?_, ?_, ?_⟩, ?_, rfl, rfl, ?_, ?_⟩
      · (try conv => whnf)
        (repeat' (first | exact True.intro | exact fun _ h => h | refine inR64_of ?_ ?_ | apply And.intro | refine maxLen_ge ?_)) <;> (first | omega | (dsimp only; omega) | (dsimp only [List.length_cons, List.length_nil]; omega) | (intro hg; rw [hg]; rfl) | (intro hg hh; rw [hg, hh]; rfl) | (intro hg; simp [-List.getD_eq_getElem?_getD, -Int.default_eq_zero] at hg; first | omega | (refine inR64_of ?_ ?_ <;> omega) | (constructor <;> omega)) | (simp [-List.getD_eq_getElem?_getD, -Int.default_eq_zero]; done))
      · dsimp only; omega
      · rw [← k2]; dsimp only
        rw [show k = (k - 1) + 1 by omega]; rfl
      · dsimp only [axN]; rw [List.length_append, List.length_cons, List.length_nil]; omega
      · dsimp only [axN]; omega
      · dsimp only [axN]; omega
      · dsimp only [axN]; omega
      · dsimp only; omega
      all_goals repeat' (first | exact True.intro | refine leF_cons rfl ?_ ?_ | refine leS_cons rfl ?_ ?_ | (show PLe _ _ _ _; conv => whnf) | (show SLe _ _ _ _; conv => whnf) | (show PLeL _ _ _ _; conv => whnf) | apply And.intro | rfl | exact Nat.le_refl _ | exact fun _ _ => rfl | exact rowEq0 _ _)
      all_goals (try dsimp only [axN])
      all_goals first | omega | exact q | (simp only [List.length_append, List.length_cons, List.length_nil]; done) | skip
    · replace hc := of_decide_eq_false hc
      have hk : k = 0 := by
        have h : ¬ (0 : Int) ≤ (k : Int) - 1 := hc
        omega
      subst hk
      rw [← k2]
      conv => whnf
      refine ⟨?_, [], ?_⟩
      · (try conv => whnf)
        (repeat' (first | exact True.intro | exact fun _ h => h | refine inR64_of ?_ ?_ | apply And.intro | refine maxLen_ge ?_)) <;> (first | omega | (dsimp only; omega) | (dsimp only [List.length_cons, List.length_nil]; omega) | (intro hg; rw [hg]; rfl) | (intro hg hh; rw [hg, hh]; rfl) | (intro hg; simp [-List.getD_eq_getElem?_getD, -Int.default_eq_zero] at hg; first | omega | (refine inR64_of ?_ ?_ <;> omega) | (constructor <;> omega)) | (simp [-List.getD_eq_getElem?_getD, -Int.default_eq_zero]; done))
      conv => whnf
      refine ⟨rfl, ?_, ?_, trivial⟩
      all_goals repeat' (first | exact True.intro | refine leF_cons rfl ?_ ?_ | refine leS_cons rfl ?_ ?_ | (show PLe _ _ _ _; conv => whnf) | (show SLe _ _ _ _; conv => whnf) | (show PLeL _ _ _ _; conv => whnf) | apply And.intro | rfl | exact Nat.le_refl _ | exact fun _ _ => rfl | exact rowEq0 _ _)
end Pv
end Go.Proofs.YtcfcmafmdpbjoaaDoor

set_option linter.unusedSimpArgs false
set_option linter.unusedVariables false
namespace Go.Proofs.YtcfcmafmdpbjoaaDoor
namespace Pv
open Go.RowKit

/-- Block g holds the numbers l at its beginning. -/
def IntsIn (w : World) (g : Nat) (T : TypeId) (cap : Nat) (l : List Int) : Prop :=
  ∃ (cur : Array Value) (fz : Nat × Nat), w.heap[g]? = some (.cells cur T fz) ∧ fzOff cur.size fz ∧ l.length ≤ cap ∧ cap ≤ maxLen ∧ cur.size = cap * 1 ∧ cur.toList.take (l.length * 1) = l.map (Value.int .i64)

/-- The function turns the numbers l of a slice into l', in place; 'back': it gives the slice of l' back. -/
def InPlace (P : Program) (F : FuncId) (l l' : List Int) (back : Bool) : Prop :=
  (∃ fn, P.funcs[F]? = some fn ∧ fn.body.isSome = true ∧ (fn.name == "runtime.NumGoroutine") = false) ∧
  ∀ (w : World) (g cap : Nat) (T : TypeId), IntsIn w g T cap l → Calls P F #[.slice (some ⟨g, 0, none⟩) l.length cap] w fun e w' =>
    e = .returned (if back then .slice (some ⟨g, 0, none⟩) l'.length cap else .tuple #[]) ∧ Keeps (· = g) w w' ∧ IntsIn w' g T cap l'

section
variable {P : Program} {X : Cx} {γ : Gh} {w w0 : World} {may : Nat → Prop} {a : Act} {s : PS}

theorem call_wp {wr : Bool} {o : Oper} {F : FuncId} {y : A} {p : PV} {K : Act → World → Prop} {Q : Exit → Act → World → Prop} {R : Value → World → Prop}
    (hR : Rel X w0 may a w s γ) (hc : compI P wr o = some (.call (.c (.fn (.func F) [] [])) [y])) (hv : A.val s.fr y = some p)
    (hfn : ∃ fn, P.funcs[F]? = some fn ∧ fn.body.isSome = true ∧ (fn.name == "runtime.NumGoroutine") = false)
    (hC : ∀ v, Rep X γ w p v → Calls P F #[v] w fun e w' => ∃ u, e = .returned u ∧ R u w') (hK : ∀ u w', R u w' → K (a.put o.dst u) w') : o.wp P a w K Q := by
  have H := eval_opd hR
  have hcall : ∃ cl f y' ys, o.op = .call cl ∧ cl.callee = .value f ∧ arg f = some y' ∧ mapO (fun (q : Operand × TypeId) => argT P q.2 q.1) (cl.args.toList.zip cl.argTypes.toList) = some ys ∧ cl.args.size = cl.argTypes.size ∧ y' = .c (.fn (.func F) [] []) ∧ ys = [y] := by
    revert hc
    unfold compI
    intro hc
    repeat' (split at hc)
    all_goals first
      | (cases hc; done)
      | (injection hc with hc; injection hc; done)
      | (obtain ⟨y, hy, hh⟩ := Option.map_eq_some_iff.1 hc; cases hh; done)
      | (injection hc with hc; injection hc with e1 e2
         rename_i _ cl hop _ f hcal _ _ y' ys hy hys hsz
         exact ⟨_, _, _, _, hop, hcal, hy, hys, by simpa using hsz, e1, e2⟩)
  obtain ⟨cl, f, y', ys, hop, hcal, hy, hys, hsz, rfl, rfl⟩ := hcall
  have hz : (cl.args.toList.zip cl.argTypes.toList).map (fun q => a.eval q.1) = (cl.args.map a.eval).toList := by
    have hl : cl.args.toList.length = cl.argTypes.toList.length := by simpa using hsz
    have h1 : (cl.args.toList.zip cl.argTypes.toList).map (fun q => q.1) = cl.args.toList := List.map_fst_zip (by omega)
    rw [show (fun q : Operand × TypeId => a.eval q.1) = a.eval ∘ (fun q => q.1) from rfl, ← List.map_map, h1]
    simp
  have hr1 : Rep X γ w (.fn (.func F) [] []) (a.eval f) := arg_rep H hy (by rfl)
  have hr2 : RepL X γ w [p] (cl.args.map a.eval).toList := by
    have := argsT_rep (P := P) (α := Operand × TypeId) H (fun q => q.2) (fun q => q.1) (xs := cl.args.toList.zip cl.argTypes.toList) (ys := [y]) (ps := [p]) hys (by simp only [valL, hv])
    rwa [hz] at this
  obtain ⟨v, us, hvs, hrv, hrus⟩ := hr2.cons_inv
  have hus := hrus.nil_inv
  subst hus
  obtain ⟨fn, hfn1, hbody, hname⟩ := hfn
  have hfe : ∀ fv, Rep X γ w (.fn (.func F) [] []) fv → fv = .func (.func F) #[] #[] := by
    intro fv h
    cases h with
    | fn _ _ _ vs us hvl hul h h' =>
      have e1 : vs = [] := List.eq_nil_of_length_eq_zero hvl
      have e2 : us = [] := List.eq_nil_of_length_eq_zero hul
      subst e1 e2
      rfl
  have hfe := hfe _ hr1
  have hrun : (execOp a.eval o).run P w = .ok (.enter F #[v]) w := by
    unfold execOp
    rw [hop]
    have hb : fn.body ≠ none := by intro h; rw [h] at hbody; cases hbody
    have hnm : fn.name ≠ "runtime.NumGoroutine" := by simpa using hname
    have hav : cl.args.map a.eval = #[v] := by rw [← Array.toList_inj, hvs]
    simp [resolve, hcal, hfe, Deferred.ofValue, invoke, callFunc, hfn1, hb, hnm, hav]
  unfold Oper.wp
  rw [hrun]
  simp only [Oper.upon]
  refine (hC v hrv).mono ?_
  rintro e w' ⟨u, rfl, hu⟩
  exact hK u w' hu

/-! ### a row of numbers -/
theorem row_ints {ge : GE} {τ e : Nat} {f : Nat → List PV} {l : List Int} (h : RepS X γ w ge (.row τ e 1 l.length f)) (hf : RowEq l.length f (fl (fun n : Int => [PV.int .i64 n]) l)) (hl : 0 < l.length) :
    ∃ g cap, ge.hdr = .slice (some ⟨g, 0, none⟩) l.length cap ∧ ge.blk = some g ∧ ge.z = 1 ∧ IntsIn w g e cap l := by
  obtain ⟨vs, h1, h2, h3, h4, h5⟩ := h.rows
  have hvs : vs = l.map (Value.int .i64) := by
    refine List.ext_getElem? fun j => ?_
    have hlen : vs.length = l.length := by rw [h5.len, Nat.mul_one]
    by_cases hj : j < l.length
    · have hc : (f j)[0]? = some (.int .i64 (l.getD j default)) := by rw [hf j hj]; rfl
      have hu : vs[j]? = some (vs[j]'(by omega)) := List.getElem?_eq_getElem (by omega)
      have := h5.rep j 0 _ (vs[j]'(by omega)) hj hc (by rw [Nat.mul_one, Nat.add_zero]; exact hu)
      have hi : vs[j]'(by omega) = .int .i64 (l.getD j default) := by
        have h6 : Rep X γ w (.int .i64 (l.getD j default)) (vs[j]'(by omega)) := this
        exact h6.int_inv
      rw [hu, hi, List.getElem?_map, getD_some hj]; rfl
    · rw [List.getElem?_eq_none (by omega), List.getElem?_eq_none (by simp; omega)]
  subst hvs
  rcases h4.2 with ⟨_, h0⟩ | ⟨g, cap, cur, fz, hh, hg, hfz, hnc, hcm, hsz, htk⟩
  · omega
  · exact ⟨g, cap, hh, by rw [h2, hh]; rfl, h1, cur, fz, hg, hfz, hnc, hcm, hsz, htk⟩
theorem ints_row {w' : World} {γ' : Gh} {e g cap : Nat} {l : List Int} (h : IntsIn w' g e cap l) :
    RepS X γ' w' ⟨some g, .slice (some ⟨g, 0, none⟩) l.length cap, 1⟩ (.row 0 e 1 l.length (fl (fun n : Int => [PV.int .i64 n]) l)) := by
  obtain ⟨cur, fz, hg, hfz, hnc, hcm, hsz, htk⟩ := h
  refine ⟨l.map (Value.int .i64), rfl, rfl, rfl, ⟨by simp, .inr ⟨g, cap, cur, fz, rfl, hg, hfz, hnc, hcm, hsz, htk⟩⟩, fun u hu => ?_, fun i hi => rfl, fun i hi c hc => ?_, fun i j c u hi hc hu => ?_⟩
  · obtain ⟨n, _, rfl⟩ := List.mem_map.1 hu; rfl
  · have : c = .int .i64 (l.getD i default) := by simpa [fl] using hc
    subst this; rfl
  · have hj : j = 0 := by
      have := (List.getElem?_eq_some_iff.1 hc).1
      simp [fl] at this; omega
    subst hj
    have : c = .int .i64 (l.getD i default) := by
      have h0 : some (PV.int .i64 (l.getD i default)) = some c := hc
      injection h0 with h0; exact h0.symm
    subst this
    rw [Nat.mul_one, Nat.add_zero, List.getElem?_map, getD_some hi] at hu
    injection hu with hu; subst hu
    exact .int _ _

end

section
variable {P : Program} {wr : Bool} {np : Nat} {Q : Lv → PS → Prop}

theorem ents_put {X : Cx} {w0 w w' : World} {may : Nat → Prop} {a : Act} {s s' : PS} {γ γ' : Gh} {E : Eff} {v : Value} {d : Nat} (h : Rel X w0 may a w s γ) (hE : EffOK X γ w s.st E v w' γ' s'.st) (hn : s'.n = s.n) (hd : d < s.n)
    (hfr : s'.fr = upd (voidF E.kill s.fr) d E.val) : Rel X w0 may (a.put (some d) v) w' s' γ' := by
  refine h.after hE hn fun t p hp => ?_
  rw [hfr] at hp
  by_cases ht : t = d
  · subst ht
    rw [upd_same] at hp; injection hp with hp; subst hp
    exact .inl ⟨rfl, hd, hE.val⟩
  · rw [upd_ne _ _ ht] at hp
    simp only [voidF] at hp
    obtain ⟨q, hq, rfl⟩ := Option.map_eq_some_iff.1 hp
    exact .inr ⟨fun h => ht (by injection h with h; exact h.symm), q, hq, rfl⟩

/-- What such a call leaves. -/
def inplaceSt (n : Nat) (fr : Nat → Option PV) (st : Nat → Option SE) (log : Nat → Option LogE) (ta tb r e : Nat) (l' : List Int) (back : Bool) : PS :=
  match back with
  | false => ⟨n, upd (upd fr ta (.os r)) tb (.tup []), upd st r (.row 0 e 1 l'.length (fl (fun n : Int => [PV.int .i64 n]) l')), True, log⟩
  | true => ⟨n, upd (voidF [r] (upd fr ta (.os r))) tb (.os r), upd (voidS [r] st) r (.row 0 e 1 l'.length (fl (fun n : Int => [PV.int .i64 n]) l')), True, log⟩

theorem LSem.inplace {F : FuncId} {l l' : List Int} {back : Bool} (hF : InPlace P F l l' back) (hl : 0 < l.length) (hl' : back = false → l'.length = l.length)
    {n : Nat} {fr : Nat → Option PV} {st : Nat → Option SE} {log : Nat → Option LogE} {slot ta ia tb ib r τ e : Nat} {f : Nat → List PV} {rest : List Ins}
    (h1 : fr slot = some (.os r)) (h2 : st r = some (.row τ e 1 l.length f)) (h3 : RowEq l.length f (fl (fun n : Int => [PV.int .i64 n]) l)) (ha : Nat.blt ta n = true) (hb : Nat.blt tb n = true)
    (hK : evK (PureCall P) false 2 rest (inplaceSt n fr st log ta tb r e l' back) (fun s' => Q .nrm s')) :
    LSem P wr np (.reg (⟨some ta, ia, none, .mv (.t slot)⟩ :: ⟨some tb, ib, none, .call (.c (.fn (.func F) [] [])) [.t ta]⟩ :: rest)) Q ⟨n, fr, st, True, log⟩ := by
  intro hQ code hc X w0 may a w γ hX hR
  have hcode : ∃ id ops, code = .region id ops false ∧ mapO (compO P wr ops) ops.toList = some (⟨some ta, ia, none, .mv (.t slot)⟩ :: ⟨some tb, ib, none, .call (.c (.fn (.func F) [] [])) [.t ta]⟩ :: rest) := by
    cases code with
    | region id ops dr =>
      cases dr with
      | false =>
        simp only [comp, C.er] at hc
        split at hc
        · rename_i hm
          simp only [Option.some.injEq, C.reg.injEq] at hc
          subst hc
          exact ⟨id, ops, rfl, hm⟩
        · cases hc
      | true => simp only [comp, C.er] at hc; (repeat' (split at hc)) <;> cases hc
    | _ => simp only [comp, C.er] at hc <;> (repeat' (split at hc)) <;> simp_all
  obtain ⟨id, ops, rfl, hm⟩ := hcode
  obtain ⟨cr, s3, hev, hQ3⟩ := evK_evL hK
  have hok3 := hQ _ _ hQ3
  refine wp_region ?_
  have hlen : ops.size = 2 + rest.length := by have := mapO_length hm; simp at this; omega
  have hget : ∀ k o, ops[k]? = some o → ∃ x, (⟨some ta, ia, none, .mv (.t slot)⟩ :: ⟨some tb, ib, none, .call (.c (.fn (.func F) [] [])) [.t ta]⟩ :: rest : List Ins)[k]? = some x ∧ compO P wr ops o = some x := fun k o hk => comp_ins hm k o hk
  have o0 : ops[0]? = some (ops[0]'(by omega)) := Array.getElem?_eq_getElem (by omega)
  have o1 : ops[1]? = some (ops[1]'(by omega)) := Array.getElem?_eq_getElem (by omega)
  obtain ⟨x0, hx0, hc0⟩ := hget 0 _ o0
  obtain ⟨x1, hx1, hc1⟩ := hget 1 _ o1
  simp only [List.getElem?_cons_zero, Option.some.injEq] at hx0
  simp only [List.getElem?_cons_succ, List.getElem?_cons_zero, Option.some.injEq] at hx1
  subst hx0 hx1
  have hrange : List.range ops.size = 0 :: 1 :: (num 2 rest).map (·.1) := by
    rw [num_fst, hlen, List.range_eq_range', Nat.add_comm 2, List.range'_succ, List.range'_succ]
  rw [hrange, wpOps_cons]
  refine step_sound (lg := false) (c := default) (i := 0) (s' := ⟨n, upd fr ta (.os r), st, True, log⟩) o0 hR hc0 ?_ trivial fun a1 w1 γ1 hR1 => ?_
  · simp [stepI, guardV, I.opr, valL, A.val, h1, stripI, stripS, PV.isCnd, I.acc, getL, eff, eMv, PV.topV, Eff.pure, logO, logCs, okO, newSt, newFr, PV.norm, ha]
  rw [wpOps_cons]
  obtain ⟨hg1, hi1, hd1⟩ := compO_parts hc1
  unfold wpOp
  rw [o1]
  simp only
  rw [guard_none hg1 rfl, if_pos rfl]
  refine .inl ?_
  obtain ⟨hfn, hC⟩ := hF
  have hgr : ∃ ge, γ1 r = some ge := by
    have := hR1.st.dom r
    simp only [h2] at this
    exact Option.isSome_iff_exists.1 this
  obtain ⟨ge, hge⟩ := hgr
  obtain ⟨g, cap, hhdr, hblk, hz, hin⟩ := row_ints (hR1.st.at_ r ge _ hge h2) h3 hl
  have hnd : o1 = o1 := rfl
  refine call_wp (p := .os r) (R := fun u w' => u = (if back then .slice (some ⟨g, 0, none⟩) l'.length cap else .tuple #[]) ∧ Keeps (· = g) w1 w' ∧ IntsIn w' g e cap l') hR1 hi1 (by simp only [A.val]; exact upd_same _ _ _) hfn (fun v hv => ?_) (fun u w' hu => ?_)
  · obtain ⟨ge', hge', rfl⟩ := os_inv hv
    rw [hge] at hge'; injection hge' with hge'; subst hge'
    rw [hhdr]
    refine (hC w1 g cap e hin).mono ?_
    rintro ev w' ⟨he, hk, hi⟩
    exact ⟨_, he, rfl, hk, hi⟩
  · obtain ⟨rfl, hk, hi⟩ := hu
    have hdst : (ops[1]'(by omega)).dst = some tb := hd1.symm
    rw [hdst]
    have hRel : ∃ γ2, Rel X w0 may (a1.put (some tb) (if back then .slice (some ⟨g, 0, none⟩) l'.length cap else .tuple #[])) w' (inplaceSt n fr st log ta tb r e l' back) γ2 := by
      cases back with
      | false =>
        have hll := hl' rfl
        refine ⟨γ1, ents_put (E := ⟨.tup [], [], [], [], [], []⟩) hR1 ?_ rfl (by simpa [Nat.blt_eq] using hb) (by simp [inplaceSt, voidF_nil])⟩
        have h0 := EffOK.write (E := ⟨.junk, [], [], [], [], []⟩) (v := .tuple #[]) (e := .row 0 e 1 l'.length (fl (fun n : Int => [PV.int .i64 n]) l')) hR1.st hge hblk h2 rfl hk (fun _ => ?_) rfl (fun l hl => by cases hl)
        · exact ⟨.tup [] [] rfl (fun k c u hk => by simp at hk), h0.old, h0.sto, h0.keeps, h0.ownE, h0.box, h0.bld⟩
        · have := ints_row (X := X) (γ' := γ1) hi
          rw [hll] at this ⊢
          have hge2 : ge = ⟨some g, .slice (some ⟨g, 0, none⟩) l.length cap, 1⟩ := by cases ge; simp_all
          rw [hge2]; exact this
      | true =>
        refine ⟨upd γ1 r ⟨some g, .slice (some ⟨g, 0, none⟩) l'.length cap, 1⟩, ents_put (E := ⟨.os r, [], [], [], [r], []⟩) hR1 ?_ rfl (by simpa [Nat.blt_eq] using hb) (by simp [inplaceSt])⟩
        refine EffOK.app (ge' := ⟨some g, .slice (some ⟨g, 0, none⟩) l'.length cap, 1⟩) hR1.st hR1.hX hge h2 (fun l hl => by cases hl) rfl (hk.mono fun i _ h => by rw [hblk, h]) (fun b hb => .inl (by rw [hblk]; exact hb)) (fun b hb => ?_) (fun _ => ints_row hi) (.os r _ (upd_same _ _ _) rfl rfl)
        · injection hb with hb; subst hb
          obtain ⟨cur, _, hg, _⟩ := hi
          exact (Array.getElem?_eq_some_iff.1 hg).1
    obtain ⟨γ2, hR2⟩ := hRel
    exact reg_sound (l := num 2 rest) (fun p hp => by
      obtain ⟨hg0, hg⟩ := num_get rest 2 p hp
      have hlt := (List.getElem?_eq_some_iff.1 hg).1
      have ho : ops[p.1]? = some (ops[p.1]'(by omega)) := Array.getElem?_eq_getElem (by omega)
      obtain ⟨x, hx, hco⟩ := hget _ _ ho
      rw [show p.1 = (p.1 - 2) + 2 by omega] at hx
      simp only [List.getElem?_cons_succ] at hx
      rw [hx] at hg
      injection hg with hg; subst hg
      exact ⟨_, ho, hco⟩) hR2 hev hok3 (fun a' w' γ' hR' => ⟨_, _, _, rfl, hQ3, hR'⟩)
end
end Pv
end Go.Proofs.YtcfcmafmdpbjoaaDoor
