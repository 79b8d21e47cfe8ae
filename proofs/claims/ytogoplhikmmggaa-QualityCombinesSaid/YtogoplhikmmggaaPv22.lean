/- A FUNCTION's CONTRACT, FROM ITS BODY. -/
import Derived.Test.YtogoplhikmmggaaPv21
set_option linter.unusedSimpArgs false
set_option linter.unusedVariables false
namespace Go.Proofs.Ytogoplhikmmggaa
namespace Pv
open Go.RowKit

def argF : Nat → List PV → List (Nat × PV)
  | _, [] => []
  | k, p :: ps => (k, p) :: argF (k + 1) ps
def boxF : Nat → List SE → List (Nat × SE)
  | _, [] => []
  | k, p :: ps => (k, p) :: boxF (k + 1) ps

theorem argF_get : ∀ (l : List PV) (k t : Nat) (p : PV), frL (argF k l) t = some p → k ≤ t ∧ l[t - k]? = some p
  | [], k, t, p, h => by simp [argF, frL] at h
  | q :: l, k, t, p, h => by
    simp only [argF, frL, upd_eq] at h
    split at h
    · rename_i hk; subst hk; injection h with h; subst h; simp
    · obtain ⟨h1, h2⟩ := argF_get l (k + 1) t p h
      refine ⟨by omega, ?_⟩
      rw [show t - k = (t - (k + 1)) + 1 from by omega]; simpa using h2
theorem boxF_get : ∀ (l : List SE) (k t : Nat), stL (boxF k l) t = if k ≤ t then l[t - k]? else none
  | [], k, t => by simp [boxF, stL]
  | q :: l, k, t => by
    simp only [boxF, stL, upd_eq]
    by_cases hk : t = k
    · subst hk; simp
    · rw [if_neg hk, boxF_get l (k + 1) t]
      by_cases h1 : k + 1 ≤ t
      · rw [if_pos h1, if_pos (by omega), show t - k = (t - (k + 1)) + 1 from by omega]; simp
      · rw [if_neg h1, if_neg (by omega)]

/-! ### results -/
def reN (ids : List Nat) (r : Nat) : Nat := match Nat.ble newBase r with
  | true => ids.getD (r - newBase) 0
  | false => r
def elemB (r : Nat) : List Nat → Bool
  | [] => false
  | x :: l => match Nat.beq r x with
    | true => true
    | false => elemB r l
def kpR (np : Nat) (ids : List Nat) (r : Nat) : Bool := match Nat.blt r np with
  | true => true
  | false => elemB r ids
def noDup : List Nat → Bool
  | [] => true
  | x :: l => match elemB x l with
    | true => false
    | false => noDup l
def allGe (np : Nat) : List Nat → Bool
  | [] => true
  | x :: l => match Nat.ble np x with
    | true => allGe np l
    | false => false
def inRes (np m : Nat) : List Nat → Bool
  | [] => true
  | r :: l => match (Nat.blt r np || (Nat.ble newBase r && Nat.blt r (newBase + m))) with
    | true => inRes np m l
    | false => false
def inResS (np m : Nat) : List SE → Bool
  | [] => true
  | e :: l => match inRes np m e.ids with
    | true => inResS np m l
    | false => false
def leBox (st : Nat → Option SE) (kp : Nat → Bool) (ids : List Nat) : Nat → List SE → Prop
  | _, [] => True
  | k, e' :: l => (match st k with
    | some e => SLe st kp e (e'.ren (reN ids))
    | none => False) ∧ leBox st kp ids (k + 1) l
def leNew (st : Nat → Option SE) (kp : Nat → Bool) (all : List Nat) : List Nat → List SE → Prop
  | [], [] => True
  | i :: is, e' :: l => (match st i with
    | some e => SLe st kp e (e'.ren (reN all))
    | none => False) ∧ leNew st kp all is l
  | _, _ => False
def tupOf : List PV → PV
  | [p] => p
  | ps => .tup ps

/-- A result's place: a slot, or a variable that a slot points to. -/
abbrev RV := Nat × Option (Nat × Bool)
def rvVal (fr : Nat → Option PV) (st : Nat → Option SE) : RV → Option PV
  | (t, none) => fr t
  | (t, some (n, g)) => match fr t with
    | some (.pt r i j) => match st r with
      | some (.box cells) => match i with
        | 0 => asV n g ((cells.drop j).take n)
        | _ + 1 => none
      | _ => none
    | _ => none
def rvL (fr : Nat → Option PV) (st : Nat → Option SE) : List RV → Option (List PV)
  | [] => some []
  | a :: r => match rvVal fr st a, rvL fr st r with
    | some p, some ps => some (p :: ps)
    | _, _ => none
def compR (P : Program) : ResultVar → Option RV
  | .tmp t => some (t, none)
  | .cell a t => match isAggO P t with
    | some g => some (a, some (P.cellsOf t, g))
    | none => none

/-- What is handed back. -/
def ResOK (rs : List RV) (np : Nat) (c : CallRes) (ids : List Nat) (s : PS) : Prop := match s with
  | ⟨_, fr, st, _, _⟩ => match rvL fr st rs with
    | none => False
    | some ps => (noDup ids && allGe np ids && (Nat.beq c.st.length np) && Nat.ble np newBase && inRes np c.news.length c.val.ids && inResS np c.news.length c.st && inResS np c.news.length c.news) = true ∧
      PLe st (kpR np ids) (tupOf ps) (c.val.ren (reN ids)) ∧ leBox st (kpR np ids) ids 0 c.st ∧ leNew st (kpR np ids) ids ids c.news

/-- The end of a body. -/
def Fin (rs : List RV) (np : Nat) (c : CallRes) : Lv → PS → Prop
  | .ex _, _ => False
  | .nrm, s => s.ok ∧ ∃ ids, ResOK rs np c ids s
  | .ret, s => s.ok ∧ ∃ ids, ResOK rs np c ids s

theorem elemB_iff {r : Nat} : ∀ {l : List Nat}, elemB r l = true ↔ r ∈ l
  | [] => by simp [elemB]
  | x :: l => by
    simp only [elemB, List.mem_cons]
    by_cases h : r = x
    · subst h; simp
    · have : Nat.beq r x = false := by rw [Bool.eq_false_iff]; intro hh; exact h (Nat.eq_of_beq_eq_true hh)
      rw [this]; simp only [h, false_or]; exact elemB_iff
theorem noDup_iff : ∀ {l : List Nat}, noDup l = true → l.Nodup
  | [], _ => List.nodup_nil
  | x :: l, h => by
    simp only [noDup] at h
    split at h
    · cases h
    · rename_i hx
      exact List.nodup_cons.2 ⟨fun hm => by (rw [elemB_iff.2 hm] at hx; cases hx), noDup_iff h⟩
theorem allGe_iff {np : Nat} : ∀ {l : List Nat}, allGe np l = true → ∀ r ∈ l, np ≤ r
  | [], _, r, hr => by simp at hr
  | x :: l, h, r, hr => by
    simp only [allGe] at h
    split at h
    · rename_i hx
      rcases List.mem_cons.1 hr with rfl | hr
      · exact Nat.le_of_ble_eq_true hx
      · exact allGe_iff h r hr
    · cases h
theorem inRes_iff {np m : Nat} : ∀ {l : List Nat}, inRes np m l = true → ∀ r ∈ l, r < np ∨ (newBase ≤ r ∧ r < newBase + m)
  | [], _, r, hr => by simp at hr
  | x :: l, h, r, hr => by
    simp only [inRes] at h
    split at h
    · rename_i hx
      rcases List.mem_cons.1 hr with rfl | hr
      · rw [Bool.or_eq_true, Bool.and_eq_true] at hx
        rcases hx with hx | ⟨hx, hx'⟩
        · exact .inl (by simpa [Nat.blt_eq] using hx)
        · exact .inr ⟨Nat.le_of_ble_eq_true hx, by simpa [Nat.blt_eq] using hx'⟩
      · exact inRes_iff h r hr
    · cases h
theorem inResS_iff {np m : Nat} : ∀ {l : List SE}, inResS np m l = true → ∀ e ∈ l, ∀ r ∈ e.ids, r < np ∨ (newBase ≤ r ∧ r < newBase + m)
  | [], _, r, hr => by simp at hr
  | x :: l, h, r, hr => by
    simp only [inResS] at h
    split at h
    · rename_i hx
      rcases List.mem_cons.1 hr with rfl | hr
      · exact inRes_iff hx
      · exact inResS_iff h r hr
    · cases h
theorem leBox_get {st : Nat → Option SE} {kp : Nat → Bool} {ids : List Nat} : ∀ {l : List SE} {k : Nat}, leBox st kp ids k l → ∀ (i : Nat) (e' : SE), l[i]? = some e' → ∃ e, st (k + i) = some e ∧ SLe st kp e (e'.ren (reN ids))
  | [], k, h, i, e', hi => by simp at hi
  | x :: l, k, h, i, e', hi => by
    obtain ⟨h1, h2⟩ := h
    cases i with
    | zero =>
      simp only [List.getElem?_cons_zero, Option.some.injEq] at hi; subst hi
      split at h1
      · rename_i e he; exact ⟨e, he, h1⟩
      · exact h1.elim
    | succ i =>
      obtain ⟨e, he, hle⟩ := leBox_get h2 i e' (by simpa using hi)
      exact ⟨e, by rw [show k + (i + 1) = k + 1 + i from by omega]; exact he, hle⟩
theorem leNew_get {st : Nat → Option SE} {kp : Nat → Bool} {all : List Nat} : ∀ {is : List Nat} {l : List SE}, leNew st kp all is l → is.length = l.length ∧ ∀ (i : Nat) (e' : SE), l[i]? = some e' → ∃ r e, is[i]? = some r ∧ st r = some e ∧ SLe st kp e (e'.ren (reN all))
  | [], [], h => ⟨rfl, fun i e' hi => by simp at hi⟩
  | [], _ :: _, h => by simp [leNew] at h
  | _ :: _, [], h => by simp [leNew] at h
  | r :: is, x :: l, h => by
    obtain ⟨h1, h2⟩ := h
    obtain ⟨g1, g2⟩ := leNew_get h2
    refine ⟨by simp [g1], fun i e' hi => ?_⟩
    cases i with
    | zero =>
      simp only [List.getElem?_cons_zero, Option.some.injEq] at hi; subst hi
      split at h1
      · rename_i e he; exact ⟨r, e, rfl, he, h1⟩
      · exact h1.elim
    | succ i =>
      obtain ⟨r', e, k1, k2, k3⟩ := g2 i e' (by simpa using hi)
      exact ⟨r', e, by simpa using k1, k2, k3⟩

section
variable {P : Program} {wr : Bool}

def rvRun (tmps : Array Value) : ResultVar → Sem Value
  | .tmp t => pure (tmps.getD t undef)
  | .cell a t => do loadVar t (← asAddr (tmps.getD a undef))

theorem run_result {X : Cx} {γ : Gh} {w : World} {fr : Nat → Option PV} {st : Nat → Option SE} (hst : RepSt X γ w st) {tmps : Array Value} (hfr : ∀ t p, fr t = some p → Rep X γ w p (tmps.getD t undef)) {r : ResultVar} {v : RV} {p : PV}
    (hv : compR P r = some v) (hp : rvVal fr st v = some p) :
    ∃ u, (rvRun tmps r).run P w = .ok u w ∧ Rep X γ w p u := by
  cases r with
  | tmp t =>
    simp only [compR, Option.some.injEq] at hv; subst hv
    exact ⟨_, rfl, hfr t p hp⟩
  | cell a t =>
    simp only [compR] at hv
    split at hv
    · rename_i g hg
      injection hv with hv; subst hv
      simp only [rvVal] at hp
      split at hp
      · rename_i r i j hr
        split at hp
        · rename_i cells hc
          split at hp
          · have hu := hfr a _ hr
            obtain ⟨v, h1, h2⟩ := ld_box_sound hst hg hu hc rfl hp
            refine ⟨v, ?_, h2⟩
            obtain ⟨ge, b, _, _, he⟩ := pt_inv hu
            show Sem.run P (do loadVar t (← asAddr (tmps.getD a undef))) w = _
            rw [he] at h1 ⊢
            simpa [Instr.loadAt, Instr.sureAddr, asAddr] using h1
          · cases hp
        · cases hp
      · cases hp
    · cases hv

theorem mapM_run {α : Type} {w : World} (g : α → Sem Value) : ∀ (l : List α) (us : List Value), us.length = l.length → (∀ (k : Nat) (x : α) (u : Value), l[k]? = some x → us[k]? = some u → (g x).run P w = .ok u w) → (List.mapM g l).run P w = .ok us w
  | [], us, hl, h => by
    have : us = [] := List.eq_nil_of_length_eq_zero hl
    subst this; rfl
  | x :: l, us, hl, h => by
    cases us with
    | nil => simp at hl
    | cons u us =>
      have h1 := h 0 x u rfl rfl
      have h2 := mapM_run g l us (by simpa using hl) (fun k y v hk hv => h (k + 1) y v (by simpa using hk) (by simpa using hv))
      rw [List.mapM_cons]
      simp [h1, h2]

theorem run_results {X : Cx} {γ : Gh} {w : World} {fr : Nat → Option PV} {st : Nat → Option SE} (hst : RepSt X γ w st) {tmps : Array Value} (hfr : ∀ t p, fr t = some p → Rep X γ w p (tmps.getD t undef)) {fn : Func} {rs : List RV} {ps : List PV}
    (hv : mapO (compR P) fn.results.toList = some rs) (hp : rvL fr st rs = some ps) : ∃ v, (results fn tmps).run P w = .ok v w ∧ Rep X γ w (tupOf ps) v := by
  have hall : ∀ (l : List ResultVar) (rs : List RV) (ps : List PV), mapO (compR P) l = some rs → rvL fr st rs = some ps → ∃ us : List Value, RepL X γ w ps us ∧ us.length = l.length ∧ ∀ (k : Nat) (x : ResultVar) (u : Value), l[k]? = some x → us[k]? = some u → (rvRun tmps x).run P w = .ok u w := by
    intro l
    induction l with
    | nil =>
      intro rs ps h1 h2
      simp only [mapO, Option.some.injEq] at h1; subst h1
      simp only [rvL, Option.some.injEq] at h2; subst h2
      exact ⟨[], RepL.nil_, rfl, fun k x u hk => by simp at hk⟩
    | cons x l ih =>
      intro rs ps h1 h2
      simp only [mapO] at h1
      split at h1
      · rename_i b bs hb hbs
        injection h1 with h1; subst h1
        simp only [rvL] at h2
        split at h2
        · rename_i q qs hq hqs
          injection h2 with h2; subst h2
          obtain ⟨u, hu1, hu2⟩ := run_result (P := P) hst hfr hb hq
          obtain ⟨us, g1, g2, g3⟩ := ih bs qs hbs hqs
          refine ⟨u :: us, RepL.cons_ hu2 g1, by simp [g2], fun k y v hk hv => ?_⟩
          cases k with
          | zero => simp only [List.getElem?_cons_zero, Option.some.injEq] at hk hv; subst hk; subst hv; exact hu1
          | succ k => exact g3 k y v (by simpa using hk) (by simpa using hv)
        · cases h2
      · cases h1
  obtain ⟨us, h1, h2, h3⟩ := hall _ rs ps hv hp
  have h4 := mapM_run (P := P) (w := w) _ _ us h2 h3
  have hl := h1.1
  refine ⟨if h : us.toArray.size = 1 then us.toArray[0] else .tuple us.toArray, ?_, ?_⟩
  · have hres : results fn tmps = (do let vs ← fn.results.mapM (rvRun tmps); pure (if h : vs.size = 1 then vs[0] else .tuple vs)) := by
      unfold results
      have : (fun (x : ResultVar) => match x with
        | .tmp t => (pure (tmps.getD t undef) : Sem Value)
        | .cell a t => do loadVar t (← asAddr (tmps.getD a undef))) = rvRun tmps := by funext x; cases x <;> rfl
      rw [← this]
      rfl
    have e : fn.results = fn.results.toList.toArray := by simp
    rw [hres, e, List.mapM_toArray]
    simp [h4]
  · match ps, us, hl, h1 with
    | [], [], _, h1 => exact .tup _ _ h1.1 h1.2
    | [p], [u], _, h1 =>
      obtain ⟨_, _, hu, hr, _⟩ := h1.cons_inv
      simp only [List.cons.injEq] at hu
      simp only [tupOf]
      rw [hu.1]; exact hr
    | p :: q :: ps, t :: u :: us, _, h1 => exact .tup _ _ h1.1 h1.2

/-- What is checked of a function, by the kernel. -/
def fits (P : Program) (wr : Bool) (fn : Func) (nargs n : Nat) (rs : List RV) : Option C :=
  match fn.body, mapO (compR P) fn.results.toList with
  | some code, some rs' => if rs' = rs ∧ nargs + (fn.ntmps - nargs) = n ∧ (fn.name == "runtime.NumGoroutine") = false then comp P wr code else none
  | _, _ => none

theorem pure_call {f : FuncId} {fn : Func} {cc : C} {args : List PV} {bs : List SE} {c : CallRes} {rs : List RV} {n : Nat} (hmix : P.follows .mixedOrders = true)
    (hf : P.funcs[f]? = some fn) (hfits : fits P wr fn args.length n rs = some cc.er) (hbox : bs.any SE.isRow = false)
    (h : vc (PureCall P) (LSem P wr bs.length) cc (Fin rs bs.length c) (St n (argF 0 args) (boxF 0 bs))) : PureCall P f args bs c := by
  have hparts : ∃ code, fn.body = some code ∧ mapO (compR P) fn.results.toList = some rs ∧ args.length + (fn.ntmps - args.length) = n ∧ (fn.name == "runtime.NumGoroutine") = false ∧ comp P wr code = some cc.er := by
    unfold fits at hfits
    split at hfits
    · rename_i code rs' h1 h2
      split at hfits
      · rename_i hc
        obtain ⟨rfl, hc2, hc3⟩ := hc
        exact ⟨code, h1, h2, hc2, hc3, hfits⟩
      · cases hfits
    · cases hfits
  obtain ⟨code, hb, hres, hn, hnm, hcomp⟩ := hparts
  refine ⟨⟨fn, hf, by rw [hb]; rfl, hnm⟩, ?_⟩
  intro w γ as ls vals hst hX hargs
  refine calls_of_wp hf hb ?_
  have hsz : vals.toArray.size = args.length := by simpa using hargs.1
  have hR : Rel ⟨w.heap.size, as, ls, bs.length, γ⟩ w γ.own { tmps := vals.toArray ++ Array.replicate (fn.ntmps - vals.toArray.size) undef, defers := [] } w (St n (argF 0 args) (boxF 0 bs)) γ := by
    have hstf : (fun r => bs[r]?) = stL (boxF 0 bs) := by funext r; rw [boxF_get]; simp
    refine ⟨by simp only [Array.size_append, Array.size_replicate, hsz, St]; exact hn, rfl, fun t p hp => ?_, by rw [hstf] at hst; exact hst, Keeps.refl _ _, rfl, fun b hb => .inr hb, fun b hb => ⟨hX b hb, fun ho => ?_⟩, fun r hr => ⟨rfl, ?_⟩, fun b hb => ?_⟩
    · obtain ⟨_, h1⟩ := argF_get args 0 t p hp
      rw [Nat.sub_zero] at h1
      have hlt := (List.getElem?_eq_some_iff.1 h1).1
      obtain ⟨u, hu, hr⟩ := hargs.at h1
      refine ⟨by simp only [St]; omega, ?_⟩
      have : (vals.toArray ++ Array.replicate (fn.ntmps - vals.toArray.size) undef).getD t undef = u := by
        have ht : t < vals.length := by rw [hargs.1]; exact hlt
        rw [Array.getD_eq_getD_getElem?, Array.getElem?_append_left (by simpa using ht)]
        simp [hu]
      simp only [this]; exact hr
    · obtain ⟨h1, h2⟩ := hst.asOff b ho
      exact hb.elim h1 h2
    · have h1 : bs[r]? = some (bs[r]'hr) := List.getElem?_eq_getElem hr
      have h2 := List.any_eq_false.1 hbox (bs[r]'hr) (List.getElem_mem hr)
      simp only [St, boxF_get, Nat.zero_le, if_true, Nat.sub_zero, h1]
      cases hc : bs[r] with
      | box l => exact ⟨l, rfl⟩
      | row _ _ _ _ _ => rw [hc] at h2; simp [SE.isRow] at h2
    · obtain ⟨r, ge, hr, hb⟩ := hb
      have hd := hst.dom r
      rw [hr] at hd
      obtain ⟨e, he⟩ := Option.isSome_iff_exists.1 hd.symm
      exact ⟨r, ge, (List.getElem?_eq_some_iff.1 he).1, hr, hb⟩
  have hfinOk : ∀ lv s, Fin rs bs.length c lv s → s.ok := fun lv s hs => by cases lv <;> first | exact hs.1 | exact hs.elim
  refine wp_mono ((vc_sound hmix cc code _ _ hfinOk hcomp h).2 _ _ _ _ _ _ rfl hR) ?_
  rintro e a' w' ⟨lv, s', γ', he, hq, hR'⟩
  have key : (∃ ids, ResOK rs bs.length c ids s') → a'.defers = [] ∧ ∃ v, (results fn a'.tmps).run P w' = .ok v w' ∧ ∃ v' γ', Ending.returned v = .returned v' ∧ Rep ⟨w.heap.size, as, ls, bs.length, γ⟩ γ' w' c.val v' ∧ RepSt ⟨w.heap.size, as, ls, bs.length, γ⟩ γ' w' (resSt c) ∧
      Keeps γ.own w w' ∧ (∀ r, r < bs.length → γ' r = γ r) ∧ (∀ b, γ'.own b → γ.own b ∨ w.heap.size ≤ b) := by
    rintro ⟨ids, hro⟩
    obtain ⟨n', fr, st, ok, log⟩ := s'
    simp only [ResOK] at hro
    split at hro
    · exact hro.elim
    · rename_i ps hps
      obtain ⟨vv, hrun, hrv⟩ := run_results (P := P) (tmps := a'.tmps) hR'.st (fun t p hp => (hR'.fr t p hp).2) hres hps
      refine ⟨hR'.defers, vv, hrun, ?_⟩
      obtain ⟨hbool, hval, hbx, hnw⟩ := hro
      simp only [Bool.and_eq_true] at hbool
      obtain ⟨⟨⟨⟨⟨⟨b1, b2⟩, b3⟩, b4⟩, b5⟩, b6⟩, b7⟩ := hbool
      have d1 := noDup_iff b1
      have d2 := allGe_iff b2
      have d3 := Nat.eq_of_beq_eq_true b3
      have d4 := Nat.le_of_ble_eq_true b4
      obtain ⟨d5, d6⟩ := leNew_get hnw
      have hdom : ∀ r, (r < bs.length ∨ (newBase ≤ r ∧ r < newBase + c.news.length)) → ∃ e, resSt c r = some e := fun r hr => by
        unfold resSt
        rcases hr with hr | ⟨hr, hr'⟩
        · rw [if_neg (by omega)]; exact ⟨_, List.getElem?_eq_getElem (by omega)⟩
        · rw [if_pos hr]; exact ⟨_, List.getElem?_eq_getElem (by omega)⟩
      have hre1 : ∀ r, newBase ≤ r → reN ids r = ids.getD (r - newBase) 0 := fun r hr => by unfold reN; rw [Nat.ble_eq_true_of_le hr]
      have hre2 : ∀ r, r < newBase → reN ids r = r := fun r hr => by
        unfold reN
        have : Nat.ble newBase r = false := by rw [Bool.eq_false_iff]; intro hh; have := Nat.le_of_ble_eq_true hh; omega
        rw [this]
      have hcases : ∀ r e', resSt c r = some e' → (r < bs.length ∧ c.st[r]? = some e' ∧ reN ids r = r) ∨ (newBase ≤ r ∧ c.news[r - newBase]? = some e' ∧ ids[r - newBase]? = some (reN ids r)) := fun r e' hr => by
        unfold resSt at hr
        split at hr
        · rename_i hb
          right
          refine ⟨hb, hr, ?_⟩
          have hlt := (List.getElem?_eq_some_iff.1 hr).1
          rw [hre1 r hb]
          have : r - newBase < ids.length := by omega
          simp [List.getD_eq_getElem?_getD, this]
        · rename_i hb
          left
          exact ⟨by rw [← d3]; exact (List.getElem?_eq_some_iff.1 hr).1, hr, hre2 r (by omega)⟩
      have hcl : ∀ e', (e' ∈ c.st ∨ e' ∈ c.news) → ∀ q ∈ e'.ids, ∃ e2, resSt c q = some e2 := fun e' hm q hq => by
        rcases hm with hm | hm
        · exact hdom q (inResS_iff b6 e' hm q hq)
        · exact hdom q (inResS_iff b7 e' hm q hq)
      have hmem : ∀ k r, ids[k]? = some r → elemB r ids = true := fun k r hk => elemB_iff.2 (List.mem_of_getElem? hk)
      obtain ⟨h1, h2, h3⟩ := hR'.st.ent (st' := resSt c) (ρ := reN ids) (kp := kpR bs.length ids) hR'.rowLo (fun r e' hr => by
          rcases hcases r e' hr with ⟨k1, k2, k3⟩ | ⟨k1, k2, k3⟩
          · obtain ⟨e, g1, g2⟩ := leBox_get hbx r e' k2
            rw [Nat.zero_add] at g1
            refine ⟨e, by rw [k3]; exact g1, g2, ?_, hcl e' (.inl (List.mem_of_getElem? k2))⟩
            rw [k3]; unfold kpR
            have : Nat.blt r bs.length = true := by rw [Nat.blt_eq]; exact k1
            rw [this]
          · obtain ⟨r', e, g1, g2, g3⟩ := d6 _ e' k2
            rw [k3] at g1; injection g1 with g1; subst g1
            refine ⟨e, g2, g3, ?_, hcl e' (.inr (List.mem_of_getElem? k2))⟩
            unfold kpR
            split
            · rfl
            · exact hmem _ _ k3)
        (fun r r' e e' hr hr' hh => by
          rcases hcases r e hr with ⟨k1, k2, k3⟩ | ⟨k1, k2, k3⟩ <;> rcases hcases r' e' hr' with ⟨k1', k2', k3'⟩ | ⟨k1', k2', k3'⟩
          · omega
          · have := d2 _ (List.mem_of_getElem? k3'); omega
          · have := d2 _ (List.mem_of_getElem? k3); omega
          · have hi := (List.getElem?_inj (List.getElem?_eq_some_iff.1 k3).1 d1).1 (k3.trans (by rw [hh]; exact k3'.symm))
            omega)
      refine ⟨_, _, rfl, h3 _ _ _ hrv hval (fun r hr => hdom r (inRes_iff b5 r hr)), h1, hR'.keeps, fun r hr => ?_, fun b hb => ?_⟩
      · obtain ⟨e, he⟩ := hdom r (.inl hr)
        unfold reG
        rw [he, hre2 r (by omega)]
        exact (hR'.par r hr).1
      · rcases hR'.own b (h2 b hb) with h | h
        · exact .inr h
        · exact .inl h
  cases e <;> simp only [lvOf, Option.some.injEq] at he
  · subst he; exact key hq.2
  · subst he; exact hq.elim
  · cases he
  · subst he; exact key hq.2
  · cases he
  · cases he
end
end Pv
end Go.Proofs.Ytogoplhikmmggaa
