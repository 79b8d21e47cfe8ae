/- LAW 24: what tables release, and what two tables are together (FloodtableTells). -/
import Derived.Test.YtcfcmafmdpbjoaaDoorZth
import Derived.Test.YtcfcmafmdpbjoaaDoorZtg
import Derived.Test.YtcfcmafmdpbjoaaDoorZtf
/- LAW 24: a number is stored into a row of a made table: some table of the same shape is there behind it. -/
set_option linter.unusedSimpArgs false
set_option linter.unusedVariables false
namespace Go.Proofs.YtcfcmafmdpbjoaaDoor
namespace Pv
open Go.RowKit
def Sem (p p' : PV) : Prop := ∀ (X : Cx) (γ : Gh) (w : World) (u : Value), Rep X γ w p u → Rep X γ w p' u
theorem Sem.refl (p : PV) : Sem p p := fun _ _ _ _ h => h
inductive SemE : SE → SE → Prop where
  | refl (e : SE) : SemE e e
  | box (l l' : List PV) (hm : mpB l = false) (hl : l'.length = l.length) (h : ∀ (k : Nat) (c c' : PV), l[k]? = some c → l'[k]? = some c' → Sem c c') : SemE (.box l) (.box l')
structure SemS (s s' : PS) : Prop where
  n : s'.n = s.n
  fr : ∀ t p', s'.fr t = some p' → ∃ p, s.fr t = some p ∧ Sem p p'
  dom : ∀ r, (s'.st r).isSome = (s.st r).isSome
  st : ∀ r e', s'.st r = some e' → ∃ e, s.st r = some e ∧ SemE e e'
theorem RepS.sem {X : Cx} {γ : Gh} {w : World} {ge : GE} {e e' : SE} (h : RepS X γ w ge e) (hs : SemE e e') : RepS X γ w ge e' := by
  cases hs with
  | refl => exact h
  | box l l' hm hl hc =>
    obtain ⟨b, T, vs, h1, h2, h3, h4⟩ := h.plain hm
    refine ⟨b, h1, .inl ⟨T, vs, h2, h3, by rw [hl]; exact h4.1, fun k c' u hk hu => ?_⟩⟩
    obtain ⟨c, hcc⟩ := get_both hl hk
    exact hc k c c' hcc hk _ _ _ _ (h4.2 k c u hcc hu)
theorem Rel.sem {X : Cx} {w0 w : World} {may : Nat → Prop} {a : Act} {s s' : PS} {γ : Gh} (h : Rel X w0 may a w s γ) (hs : SemS s s') : Rel X w0 may a w s' γ := by
  refine ⟨by rw [hs.n]; exact h.size, h.defers, fun t p' hp => ?_, ⟨fun r => by rw [hs.dom]; exact h.st.dom r, fun r ge e' hg he => ?_, h.st.inj, h.st.asOff, h.st.lt, h.st.glob⟩, h.keeps, h.lo, h.own, h.asLt, fun r hr => ?_, h.mayP⟩
  · obtain ⟨p, hp1, hp2⟩ := hs.fr t p' hp
    obtain ⟨k1, k2⟩ := h.fr t p hp1
    exact ⟨by rw [hs.n]; exact k1, hp2 _ _ _ _ k2⟩
  · obtain ⟨e, he1, he2⟩ := hs.st r e' he
    exact (h.st.at_ r ge e hg he1).sem he2
  · have hp := h.par r hr
    cases hs' : s'.st r with
    | none =>
      have hd := hs.dom r
      rw [hs'] at hd
      cases hs0 : s.st r with
      | none => rw [hs0] at hp; exact hp.elim
      | some e => rw [hs0] at hd; cases hd
    | some e' =>
      obtain ⟨e, he1, he2⟩ := hs.st r e' hs'
      rw [he1] at hp
      cases he2 with
      | refl => exact hp
      | box l l' hm hl hc => exact hp
section
variable {P : Program} {wr : Bool} {np n : Nat} {Q : Lv → PS → Prop}
theorem LSem.havMeet (hmix : P.follows .mixedOrders = true) {α : Type} {ins pre : List Ins} {id : Nat} {x y : A} {rest : C} {s : PS} (I : α → Prop) (fl : α → List (Nat × PV)) (sl : α → List (Nat × SE))
    (hins : ins = pre ++ [⟨none, id, none, .st 1 x y⟩])
    (h : evK (PureCall P) false 0 pre s (fun s1 => s1.ok ∧ ∃ k m v, A.val s1.fr x = some (.rp 0 [.int k m]) ∧ A.val s1.fr y = some (.int k v) ∧ ∀ s2, HavS v s1 s2 → ∃ a, I a ∧ SemS s2 (St n (fl a) (sl a))))
    (h' : ∀ a, I a → vc (PureCall P) (LSem P wr np) rest Q (St n (fl a) (sl a))) : LSem P wr np (.seq (.reg ins) rest) Q s := by
  intro hQ code hc X w0 may a w γ hX hR
  have : ∃ p q, code = .seq p q ∧ comp P wr p = some (.reg ins) ∧ comp P wr q = some rest.er := by
    cases code with
    | seq p q =>
      simp only [comp, C.er] at hc
      split at hc
      · rename_i a b ha hb
        simp only [Option.some.injEq, C.seq.injEq] at hc
        obtain ⟨rfl, rfl⟩ := hc
        exact ⟨p, q, rfl, ha, hb⟩
      · cases hc
    | region id ops dr => cases dr <;> simp only [comp, C.er] at hc <;> (repeat' (split at hc)) <;> simp_all
    | _ => simp only [comp, C.er] at hc <;> (repeat' (split at hc)) <;> simp_all
  obtain ⟨p, q, rfl, hp, hq⟩ := this
  have h1 := LSem.hav (P := P) (wr := wr) (np := np) (Q := fun lv s' => match lv with
      | .nrm => s'.ok ∧ ∃ a, I a ∧ SemS s' (St n (fl a) (sl a))
      | _ => False) (ins := ins) (pre := pre) (post := []) (id := id) (x := x) (y := y) (s := s) hins (by
        refine evK_mono h fun s1 ⟨k0, k, m, v, k1, k2, k3⟩ => ⟨k0, k, m, v, k1, k2, fun s2 h2 => ⟨h2.ok, k3 s2 h2⟩⟩)
      (fun lv s' hs => by
        cases lv with
        | nrm => exact hs.1
        | _ => exact hs.elim) p hp X w0 may a w γ hX hR
  refine wp_seq (wp_mono h1 ?_)
  rintro e a' w' ⟨lv, s', γ', he, hq', hR'⟩
  cases e
  · cases he
    obtain ⟨_, x, hx, hE⟩ := hq'
    exact LSem.of_vc hmix (h' x hx) hQ q hq X w0 may a' w' γ' hX (hR'.sem hE)
  · obtain ⟨hb, rfl⟩ := lvOf_exit he; exact hq'.elim
  · cases he; exact hq'.elim
  · cases he; exact hq'.elim
  · cases he
  · cases he
end
/-! ### tables -/
theorem Hav.int_ {v : Int} {k : IntKind} {n : Int} {q : PV} (h : Hav v false (.int k n) q) : q = .int k n := by cases h; rfl
theorem Hav.pt_ {v : Int} {r i j : Nat} {q : PV} (h : Hav v false (.pt r i j) q) : q = .pt r i j := by cases h; rfl
theorem mark_int {c : PV} {τ : Nat} {k : IntKind} {n : Int} (h : c.mark τ = .int k n) : c = .int k n := by cases c <;> simp [PV.mark] at h ⊢; exact h
theorem mark_sl {c : PV} {τ z n : Nat} {g : Nat → List PV} (h : c.mark τ = .sl τ z n g) : ∃ σ, c = .sl σ z n g := by
  cases c <;> simp [PV.mark] at h ⊢
  obtain ⟨rfl, rfl, rfl⟩ := h
  exact ⟨rfl, rfl, rfl⟩
theorem getD_some' {α : Type} [Inhabited α] {l : List α} {i : Nat} (h : i < l.length) : l[i]? = some (l.getD i default) := by
  rw [List.getElem?_eq_getElem h, List.getD, List.getElem?_eq_getElem h]; rfl
theorem hav_ints {v : Int} {τ n : Nat} {l : List Int} {f' : Nat → List PV} (hn : n ≤ l.length) (hl : ∀ i, i < n → (f' i).length = (fl eInt l i).length)
    (h : ∀ (i j : Nat) (c c' : PV), i < n → (fl eInt l i)[j]? = some c → (f' i)[j]? = some c' → Hav v true (c.mark τ) (c'.mark τ)) : ∃ l' : List Int, l'.length = n ∧ RowEq n f' (fl eInt l') := by
  have hx : ∀ i, ∃ x : Int, i < n → f' i = [.int .i64 x] := fun i => by
    by_cases hi : i < n
    · have h1 : (f' i).length = 1 := hl i hi
      obtain ⟨c', hc'⟩ : ∃ c', f' i = [c'] := by
        match f' i, h1 with
        | [c'], _ => exact ⟨c', rfl⟩
      have h2 : Hav v true (.int .i64 (l.getD i default)) (c'.mark τ) := h i 0 (.int .i64 (l.getD i default)) c' hi rfl (by rw [hc']; rfl)
      generalize hq : c'.mark τ = q at h2
      cases h2 with
      | refl => rw [mark_int hq] at hc'; exact ⟨_, fun _ => hc'⟩
      | int => rw [mark_int hq] at hc'; exact ⟨_, fun _ => hc'⟩
    · exact ⟨0, fun h => absurd h hi⟩
  refine ⟨(List.range n).map fun i => Classical.choose (hx i), by simp, fun i hi => ?_⟩
  rw [Classical.choose_spec (hx i) hi]
  simp [fl, eInt, hi]
theorem hav_list {v : Int} {m : Bool} {τ : Nat} {l : List Int} {q : PV} (h : Hav v m (.sl τ 1 l.length (fl eInt l)) q) : ∃ (l' : List Int) (f' : Nat → List PV), l'.length = l.length ∧ q = .sl τ 1 l.length f' ∧ RowEq l.length f' (fl eInt l') := by
  cases h with
  | refl => exact ⟨l, _, rfl, rfl, fun _ _ => rfl⟩
  | sl m τ z n f f' hl h =>
    obtain ⟨l', h1, h2⟩ := hav_ints (Nat.le_refl _) hl h
    exact ⟨l', f', h1, rfl, h2⟩
theorem sem_list {τ n : Nat} {l' : List Int} {f' : Nat → List PV} (hl : l'.length = n) (h : RowEq n f' (fl eInt l')) : Sem (.sl τ 1 n f') (.sl τ 1 l'.length (fl eInt l')) := fun X γ w u hr => by
  subst hl; exact hr.sl_row h
theorem sem_lists {τ τ' σ' n : Nat} {F : Nat → List PV} {L' : List (List Int)} (ht : τ ≤ τ') (hn : L'.length = n) (h : ∀ i, i < n → ∃ (σ : Nat) (g : Nat → List PV), F i = [.sl σ 1 (L'.getD i default).length g] ∧ RowEq (L'.getD i default).length g (fl eInt (L'.getD i default))) :
    Sem (.sl τ 1 n F) (.sl τ' 1 L'.length (fl (eIs σ') L')) := fun X γ w u hr => by
  subst hn
  have h1 := hr.mark_up τ' ht
  refine h1.sl_congr (fun i hi => rfl) (fun i hi c hc => ?_) fun i j c' hi hj => ?_
  · have : c = .sl σ' 1 (L'.getD i default).length (fl eInt (L'.getD i default)) := by simpa [fl, eIs] using hc
    rw [this]; rfl
  · obtain ⟨σ, g, k2, k3⟩ := h i hi
    cases j with
    | zero =>
      have e : c' = .sl σ' 1 (L'.getD i default).length (fl eInt (L'.getD i default)) := by
        have : some _ = some c' := hj
        injection this with this; exact this.symm
      subst e
      refine ⟨_, by rw [k2]; rfl, fun u hu => ?_⟩
      exact Rep.sl_row hu k3
    | succ j => simp [fl, eIs] at hj
theorem hav_lists {v : Int} {m : Bool} {τ σ : Nat} {L : List (List Int)} {q : PV} (h : Hav v m (.sl τ 1 L.length (fl (eIs σ) L)) q) :
    ∃ L' : List (List Int), L'.length = L.length ∧ (∀ i, i < L.length → (L'.getD i default).length = (L.getD i default).length) ∧ ∀ τ' σ', τ ≤ τ' → Sem q (.sl τ' 1 L'.length (fl (eIs σ') L')) := by
  cases h with
  | refl => exact ⟨L, rfl, fun _ _ => rfl, fun τ' σ' ht => sem_lists ht rfl fun i hi => ⟨σ, _, rfl, fun _ _ => rfl⟩⟩
  | sl m τ z n f f' hl h =>
    have hx : ∀ i, ∃ (l' : List Int) (σ' : Nat) (g : Nat → List PV), i < L.length → l'.length = (L.getD i default).length ∧ f' i = [.sl σ' 1 (L.getD i default).length g] ∧ RowEq (L.getD i default).length g (fl eInt l') := fun i => by
      by_cases hi : i < L.length
      · have h1 : (f' i).length = 1 := hl i hi
        obtain ⟨c', hc'⟩ : ∃ c', f' i = [c'] := by
          match f' i, h1 with
          | [c'], _ => exact ⟨c', rfl⟩
        have h2 : Hav v true (.sl τ 1 (L.getD i default).length (fl eInt (L.getD i default))) (c'.mark τ) := h i 0 (.sl σ 1 (L.getD i default).length (fl eInt (L.getD i default))) c' hi rfl (by rw [hc']; rfl)
        obtain ⟨l', g, k1, k2, k3⟩ := hav_list h2
        obtain ⟨σ', k4⟩ := mark_sl k2
        exact ⟨l', σ', g, fun _ => ⟨k1, by rw [hc', k4], k3⟩⟩
      · exact ⟨[], 0, fun _ => [], fun h => absurd h hi⟩
    let R : Nat → List Int := fun i => Classical.choose (hx i)
    have hR : ∀ i, i < L.length → ∃ (σ' : Nat) (g : Nat → List PV), (R i).length = (L.getD i default).length ∧ f' i = [.sl σ' 1 (L.getD i default).length g] ∧ RowEq (L.getD i default).length g (fl eInt (R i)) := fun i hi => by
      obtain ⟨σ', g, k⟩ := Classical.choose_spec (hx i)
      exact ⟨σ', g, k hi⟩
    have hget : ∀ i, i < L.length → ((List.range L.length).map R).getD i default = R i := fun i hi => by simp [List.getD_eq_getElem?_getD, hi]
    refine ⟨(List.range L.length).map R, by simp, fun i hi => ?_, fun τ' σ' ht => sem_lists ht (by simp) fun i hi => ?_⟩
    · rw [hget i hi]; obtain ⟨_, _, k, _⟩ := hR i hi; exact k
    · obtain ⟨σ', g, k1, k2, k3⟩ := hR i hi
      rw [hget i hi, k1]
      exact ⟨σ', g, k2, k3⟩
structure ShapeT (t t' : FT) : Prop where
  lv : t'.lv.length = t.lv.length
  inf : t'.inf.length = t.inf.length
  rel : t'.rel.length = t.rel.length
  row : ∀ i, i < t.rel.length → (t'.rel.getD i default).length = (t.rel.getD i default).length
theorem hav_table {v : Int} {τ σ : Nat} {t : FT} {e : SE} (h : HavE v (.box (eFT τ σ t)) e) : ∃ t', ShapeT t t' ∧ ∀ τ' σ', τ ≤ τ' → SemE e (.box (eFT τ' σ' t')) := by
  cases h with
  | box l l' hl h =>
    obtain ⟨a, b, c, rfl⟩ : ∃ a b c, l' = [a, b, c] := by
      match l', hl with
      | [a, b, c], _ => exact ⟨a, b, c, rfl⟩
    obtain ⟨l1, f1, a1, rfl, a3⟩ := hav_list (h 0 _ _ rfl rfl)
    obtain ⟨l2, f2, b1, rfl, b3⟩ := hav_list (h 1 _ _ rfl rfl)
    obtain ⟨L, c1, c2, c3⟩ := hav_lists (h 2 _ _ rfl rfl)
    refine ⟨⟨l1, l2, L⟩, ⟨a1, b1, c1, c2⟩, fun τ' σ' ht => .box _ _ rfl rfl fun k c c' hk hk' => ?_⟩
    match k, hk, hk' with
    | 0, hk, hk' =>
      injection hk with hk; injection hk' with hk'; subst hk hk'
      exact fun X γ w u hr => (sem_list a1 a3 X γ w u hr).mark_up τ' ht
    | 1, hk, hk' =>
      injection hk with hk; injection hk' with hk'; subst hk hk'
      exact fun X γ w u hr => (sem_list b1 b3 X γ w u hr).mark_up τ' ht
    | 2, hk, hk' =>
      injection hk with hk; injection hk' with hk'; subst hk hk'
      exact c3 τ' σ' ht
    | k + 3, hk, _ => simp at hk
end Pv
end Go.Proofs.YtcfcmafmdpbjoaaDoor
set_option linter.unusedSimpArgs false
set_option linter.unusedVariables false
namespace Go.Proofs.YtcfcmafmdpbjoaaDoor
namespace Pv
def c6L1 : C := (.seq (.reg [⟨(some 67), 1072, none, .bi false .lss (.t 66) (.t 65)⟩])
  (.seq (.cond (.t 67) .skip (.exit 0))
  (.seq (.block 1 (.seq (.reg [⟨(some 68), 1088, none, .ia 3 (.t 64) (.t 66)⟩,
    ⟨(some 69), 1104, none, .ld 3 true (.t 68)⟩,
    ⟨(some 19), 304, none, .al [(.nil 1), (.nil 1), (.nil 1)]⟩,
    ⟨none, 0, none, .st 3 (.t 19) (.t 69)⟩])
  (.seq (.reg [⟨(some 71), 1136, none, .ld 3 true (.t 19)⟩,
    ⟨(some 72), 1152, none, .mv (.t 2)⟩,
    ⟨(some 73), 1168, none, .mv (.t 3)⟩,
    ⟨(some 74), 1184, none, .call (.c (.fn (.func 19) [] [])) [(.t 71), (.t 72), (.t 73)]⟩,
    ⟨(some 70), 1120, none, .mv (.t 74)⟩,
    ⟨(some 75), 1200, none, .ex (.t 70) 0⟩,
    ⟨(some 76), 1216, none, .ex (.t 70) 1⟩,
    ⟨(some 20), 320, none, .mv (.t 75)⟩,
    ⟨(some 21), 336, none, .mv (.t 76)⟩])
  (.seq (.reg [⟨(some 78), 1248, none, .ld 3 true (.t 19)⟩,
    ⟨(some 79), 1264, none, .mv (.t 2)⟩,
    ⟨(some 80), 1280, none, .mv (.t 3)⟩,
    ⟨(some 81), 1296, none, .call (.c (.fn (.func 21) [] [])) [(.t 78), (.t 79), (.t 80)]⟩,
    ⟨(some 77), 1232, none, .mv (.t 81)⟩,
    ⟨(some 82), 1312, none, .ex (.t 77) 0⟩,
    ⟨(some 83), 1328, none, .ex (.t 77) 1⟩,
    ⟨(some 22), 352, none, .mv (.t 82)⟩,
    ⟨(some 23), 368, none, .mv (.t 83)⟩])
  (.seq (.seq (.drw [⟨(some 84), 1344, none, .ld 3 true (.t 19)⟩,
    ⟨(some 85), 1360, none, .call (.c (.fn (.func 22) [] [])) [(.t 84)]⟩,
    ⟨(some 86), 1376, none, .ld 3 true (.t 19)⟩,
    ⟨(some 87), 1392, none, .call (.c (.fn (.func 23) [] [])) [(.t 86)]⟩,
    ⟨(some 88), 1408, none, .bi false .neq (.t 85) (.t 87)⟩,
    ⟨(some 89), 1424, none, .mv (.t 88)⟩,
    ⟨(some 90), 1440, (some (89, false)), .mv (.t 20)⟩,
    ⟨(some 91), 1456, (some (89, false)), .mv (.t 22)⟩,
    ⟨(some 92), 1472, (some (89, false)), .bi false .neq (.t 90) (.t 91)⟩,
    ⟨(some 93), 1488, none, .pick (.t 89) (.c (.bool true)) (.t 92)⟩,
    ⟨(some 94), 1504, none, .mv (.t 93)⟩,
    ⟨(some 95), 1520, (some (94, false)), .mv (.t 21)⟩,
    ⟨(some 96), 1536, (some (94, false)), .mv (.t 23)⟩,
    ⟨(some 97), 1552, (some (94, false)), .bi false .neq (.t 95) (.t 96)⟩,
    ⟨(some 98), 1568, none, .pick (.t 94) (.c (.bool true)) (.t 97)⟩]
    [(0, 2, 84), (1, 2, 85), (6, 7, 90), (11, 12, 95)])
  (.cond (.t 98) (.seq (.reg [⟨(some 12), 192, none, .mv (.c (.bool false))⟩])
  .ret) .skip))
  (.seq (.reg [⟨(some 100), 1600, none, .ld 3 true (.t 19)⟩,
    ⟨(some 101), 1616, none, .ld 3 true (.t 15)⟩,
    ⟨(some 102), 1632, none, .call (.c (.fn (.func 24) [] [])) [(.t 100), (.t 101)]⟩,
    ⟨(some 99), 1584, none, .mv (.t 102)⟩,
    ⟨(some 103), 1648, none, .ex (.t 99) 0⟩,
    ⟨(some 104), 1664, none, .ex (.t 99) 1⟩,
    ⟨(some 24), 384, none, .al [(.nil 1), (.nil 1), (.nil 1)]⟩,
    ⟨none, 0, none, .st 3 (.t 24) (.t 103)⟩,
    ⟨(some 21), 336, none, .mv (.t 104)⟩])
  (.seq (.reg [⟨(some 106), 1696, none, .ld 3 true (.t 19)⟩,
    ⟨(some 107), 1712, none, .ld 3 true (.t 15)⟩,
    ⟨(some 108), 1728, none, .call (.c (.fn (.func 25) [] [])) [(.t 106), (.t 107)]⟩,
    ⟨(some 105), 1680, none, .mv (.t 108)⟩,
    ⟨(some 109), 1744, none, .ex (.t 105) 0⟩,
    ⟨(some 110), 1760, none, .ex (.t 105) 1⟩,
    ⟨(some 25), 400, none, .al [(.nil 1), (.nil 1), (.nil 1)]⟩,
    ⟨none, 0, none, .st 3 (.t 25) (.t 109)⟩,
    ⟨(some 23), 368, none, .mv (.t 110)⟩])
  (.seq (.drw [⟨(some 111), 1776, none, .mv (.t 21)⟩,
    ⟨(some 112), 1792, none, .mv (.t 23)⟩,
    ⟨(some 113), 1808, none, .bi false .neq (.t 111) (.t 112)⟩,
    ⟨(some 114), 1824, none, .mv (.t 113)⟩,
    ⟨(some 115), 1840, (some (114, false)), .ld 3 true (.t 24)⟩,
    ⟨(some 116), 1856, (some (114, false)), .ld 3 true (.t 25)⟩,
    ⟨(some 117), 1872, (some (114, false)), .call (.c (.fn (.func 16) [] [])) [(.t 115), (.t 116)]⟩,
    ⟨(some 118), 1888, (some (114, false)), .un false .not (.t 117)⟩,
    ⟨(some 119), 1904, none, .pick (.t 114) (.c (.bool true)) (.t 118)⟩,
    ⟨(some 120), 1920, none, .mv (.t 119)⟩,
    ⟨(some 121), 1936, (some (120, false)), .ld 3 true (.t 19)⟩,
    ⟨(some 122), 1952, (some (120, false)), .ld 3 true (.t 15)⟩,
    ⟨(some 123), 1968, (some (120, false)), .call (.c (.fn (.func 18) [] [])) [(.t 121), (.t 122)]⟩,
    ⟨(some 124), 1984, (some (120, false)), .ld 3 true (.t 19)⟩,
    ⟨(some 125), 2000, (some (120, false)), .ld 3 true (.t 15)⟩,
    ⟨(some 126), 2016, (some (120, false)), .call (.c (.fn (.func 16) [] [])) [(.t 124), (.t 125)]⟩,
    ⟨(some 127), 2032, (some (120, false)), .bib true (.t 123) (.t 126)⟩,
    ⟨(some 128), 2048, none, .pick (.t 120) (.c (.bool true)) (.t 127)⟩]
    [(0, 1, 111), (4, 5, 115), (10, 11, 121), (10, 13, 121), (10, 14, 121), (11, 13, 122), (11, 14, 122), (12, 13, 123), (12, 14, 123), (13, 14, 124)])
  (.cond (.t 128) (.seq (.reg [⟨(some 12), 192, none, .mv (.c (.bool false))⟩])
  .ret) .skip)))))))))
  (.reg [⟨(some 129), 2064, none, .bi false .add (.t 66) (.c (.int .i64 1))⟩,
    ⟨(some 66), 1056, none, .mv (.t 129)⟩]))))
def c6 : C := (.seq (.reg [⟨(some 7), 112, none, .bx 3 (.t 1)⟩,
    ⟨(some 12), 192, none, .mv (.c (.bool false))⟩])
  (.seq (.seq (.reg [⟨(some 26), 416, none, .call (.c (.fn (.func 8) [] [])) []⟩,
    ⟨(some 27), 432, none, .un false .not (.t 26)⟩])
  (.cond (.t 27) (.seq (.reg [⟨(some 12), 192, none, .mv (.c (.bool false))⟩])
  .ret) .skip))
  (.seq (.seq (.reg [⟨(some 28), 448, none, .mv (.t 0)⟩,
    ⟨(some 29), 464, none, .call (.c (.fn (.func 9) [] [])) [(.t 28)]⟩,
    ⟨(some 30), 480, none, .un false .not (.t 29)⟩,
    ⟨(some 31), 496, none, .mv (.t 30)⟩,
    ⟨(some 32), 512, (some (31, false)), .ld 3 true (.t 7)⟩,
    ⟨(some 33), 528, (some (31, false)), .call (.c (.fn (.func 10) [] [])) [(.t 32)]⟩,
    ⟨(some 34), 544, (some (31, false)), .un false .not (.t 33)⟩,
    ⟨(some 35), 560, none, .pick (.t 31) (.c (.bool true)) (.t 34)⟩])
  (.cond (.t 35) (.seq (.reg [⟨(some 12), 192, none, .mv (.c (.bool true))⟩])
  .ret) .skip))
  (.seq (.reg [⟨(some 36), 576, none, .mv (.t 0)⟩,
    ⟨(some 37), 592, none, .call (.c (.fn (.func 12) [] [])) [(.t 36)]⟩,
    ⟨(some 13), 208, none, .mv (.t 37)⟩])
  (.seq (.reg [⟨(some 38), 608, none, .mv (.t 13)⟩,
    ⟨(some 39), 624, none, .call (.c (.fn (.func 11) [] [])) [(.t 38)]⟩,
    ⟨(some 40), 640, none, .mv (.t 13)⟩,
    ⟨(some 41), 656, none, .call (.c (.fn (.func 11) [] [])) [(.t 40)]⟩,
    ⟨(some 14), 224, none, .al [(.nil 1), (.nil 1), (.nil 1)]⟩,
    ⟨(some 15), 240, none, .al [(.nil 1), (.nil 1), (.nil 1)]⟩,
    ⟨none, 0, none, .st 3 (.t 14) (.t 39)⟩,
    ⟨none, 0, none, .st 3 (.t 15) (.t 41)⟩])
  (.seq (.reg [⟨(some 42), 672, none, .mv (.t 0)⟩,
    ⟨(some 43), 688, none, .call (.c (.fn (.func 12) [] [])) [(.t 42)]⟩,
    ⟨(some 44), 704, none, .call (.c (.fn (.func 11) [] [])) [(.t 43)]⟩,
    ⟨(some 16), 256, none, .al [(.nil 1), (.nil 1), (.nil 1)]⟩,
    ⟨none, 0, none, .st 3 (.t 16) (.t 44)⟩])
  (.seq (.drw [⟨(some 45), 720, none, .fa 2 (.t 16)⟩,
    ⟨(some 46), 736, none, .ld 1 false (.t 45)⟩,
    ⟨(some 47), 752, none, .mv (.t 4)⟩,
    ⟨(some 48), 768, none, .fa 2 (.t 16)⟩,
    ⟨(some 49), 784, none, .ld 1 false (.t 48)⟩,
    ⟨(some 50), 800, none, .len (.t 49)⟩,
    ⟨(some 51), 816, none, .call (.c (.fn (.func 20) [] [])) [(.t 47), (.t 50)]⟩,
    ⟨(some 52), 832, none, .ia 1 (.t 46) (.t 51)⟩,
    ⟨(some 53), 848, none, .ld 1 false (.t 52)⟩,
    ⟨(some 17), 272, none, .mv (.t 53)⟩]
    [(0, 2, 45), (0, 3, 45), (0, 4, 45), (0, 5, 45), (0, 6, 45), (1, 2, 46), (1, 3, 46), (1, 4, 46), (1, 5, 46), (1, 6, 46), (2, 3, 47), (2, 4, 47), (2, 5, 47)])
  (.cut (.seq (.reg [⟨(some 54), 864, none, .mv (.t 17)⟩,
    ⟨(some 55), 880, none, .mv (.t 5)⟩,
    ⟨(some 56), 896, none, .mv (.t 17)⟩,
    ⟨(some 57), 912, none, .len (.t 56)⟩,
    ⟨(some 58), 928, none, .call (.c (.fn (.func 20) [] [])) [(.t 55), (.t 57)]⟩,
    ⟨(some 59), 944, none, .mv (.t 5)⟩,
    ⟨(some 60), 960, none, .ia 1 (.t 54) (.t 58)⟩,
    ⟨none, 0, none, .st 1 (.t 60) (.t 59)⟩])
  (.seq (.seq (.reg [⟨(some 61), 976, none, .ld 3 true (.t 7)⟩,
    ⟨(some 62), 992, none, .ld 3 true (.t 14)⟩,
    ⟨(some 63), 1008, none, .ld 3 true (.t 16)⟩,
    ⟨(some 64), 1024, none, .bs 25 3 [(.t 61), (.t 62), (.t 63)]⟩,
    ⟨(some 65), 1040, none, .len (.t 64)⟩,
    ⟨(some 66), 1056, none, .mv (.c (.int .i64 0))⟩])
  (.block 0 (.loop c6L1)))
  (.seq (.reg [⟨(some 12), 192, none, .mv (.c (.bool true))⟩])
  .ret)))))))))))
theorem fits6 : fits Tryd.prog false Tryd.f6 6 130 [(12, none)] = some c6.er := by kernel_rfl
structure Big (t : FT) : Prop where
  lv : t.lv.length ≤ 4611686018427387904
  inf : t.inf.length ≤ 4611686018427387904
  rel : t.rel.length ≤ 4611686018427387904
  row : ∀ i, i < t.rel.length → (t.rel.getD i default).length ≤ 4611686018427387904
theorem Big.shape {t t' : FT} (h : Big t) (hs : ShapeT t t') : Big t' :=
  ⟨by rw [hs.lv]; exact h.lv, by rw [hs.inf]; exact h.inf, by rw [hs.rel]; exact h.rel, fun i hi => by rw [hs.row i (by rw [← hs.rel]; exact hi)]; exact h.row i (by rw [← hs.rel]; exact hi)⟩
theorem Big.tab {t : FT} (h : TabOK t) : Big t := ⟨by have := h.l1; omega, by have := h.l2; omega, by have := h.l1; have := h.l3; omega, tab_rows h⟩
theorem big_join (a b : FT) : Big (joinF a b).1 := by
  have hz : Big FT0 := ⟨Nat.zero_le _, Nat.zero_le _, Nat.zero_le _, fun i hi => absurd hi (Nat.not_lt_zero i)⟩
  unfold joinF
  split
  · exact hz
  · split
    · exact hz
    · split
      · exact hz
      · rename_i h
        have h1 : (bothF a.lv b.lv).length ≤ 20 := by omega
        have h2 : (bothF a.inf b.inf).length ≤ 20 := by omega
        refine ⟨Nat.le_trans h1 (by decide), Nat.le_trans h2 (by decide), ?_, fun i hi => ?_⟩
        · show ((bothF a.lv b.lv).map _).length ≤ _
          rw [List.length_map]; exact Nat.le_trans h1 (by decide)
        · have hi' : i < ((bothF a.lv b.lv).map (rowJ a b (bothF a.inf b.inf))).length := hi
          rw [List.length_map] at hi'
          show (((bothF a.lv b.lv).map (rowJ a b (bothF a.inf b.inf))).getD i default).length ≤ _
          rw [map_getD hi']
          show ((bothF a.inf b.inf).map _).length ≤ _
          rw [List.length_map]; exact Nat.le_trans h2 (by decide)
instance : Inhabited FT := ⟨FT0⟩
theorem rowEq3 {α : Type} [Inhabited α] {e : α → List PV} {a b c : α} {f : Nat → List PV} (h0 : f 0 = e a) (h1 : f 1 = e b) (h2 : f 2 = e c) : RowEq 3 f (fl e [a, b, c]) := fun i hi => by
  match i, hi with
  | 0, _ => exact h0
  | 1, _ => exact h1
  | 2, _ => exact h2
set_option maxRecDepth 100000 in
set_option maxHeartbeats 16000000 in
theorem call6 (l : List Int) (raw : FT) (level inflow at_ by_ : Int) (hraw : Big raw) :
    PureCall Tryd.prog 6 [.sl 1 1 l.length (fl eInt l), .agg (eFT 1 1 raw), .int .i64 level, .int .i64 inflow, .int .i64 at_, .int .i64 by_] [] ⟨.bool true, [], []⟩ := by
  refine pure_call mix Tryd.func6 fits6 rfl ?_
  conv => whnf
  refine ⟨_, fun _ => call8, ?_⟩
  conv => whnf
  refine ⟨?_, fun h => absurd h Bool.false_ne_true, fun _ => ?_⟩
  · exact g0
  conv => whnf
  refine ⟨_, fun _ => call9 1 l, ?_⟩
  conv => whnf
  refine ⟨_, fun _ => PureCall.arg_le (call10 1 raw hraw.rel) rfl (by
    all_goals repeat' (first | exact True.intro | refine leF_cons rfl ?_ ?_ | refine leS_cons rfl ?_ ?_ | (show PLe _ _ _ _; conv => whnf) | (show SLe _ _ _ _; conv => whnf) | (show PLeL _ _ _ _; conv => whnf) | apply And.intro | rfl | exact Nat.le_refl _ | exact fun _ _ => rfl | exact rowEq0 _ _)
    all_goals first | omega | exact (by decide) | skip), ?_⟩
  conv => whnf
  refine ⟨?_, fun hc => ?_, fun hc => ?_⟩
  · exact g0
  · conv => whnf
    refine ⟨?_, [], ?_⟩
    · exact g0
    conv => whnf
    refine ⟨rfl, ?_, trivial, trivial⟩
    all_goals repeat' (first | exact True.intro | refine leF_cons rfl ?_ ?_ | refine leS_cons rfl ?_ ?_ | (show PLe _ _ _ _; conv => whnf) | (show SLe _ _ _ _; conv => whnf) | (show PLeL _ _ _ _; conv => whnf) | apply And.intro | rfl | exact Nat.le_refl _ | exact fun _ _ => rfl | exact rowEq0 _ _)
  clear hc
  conv => whnf
  refine ⟨_, fun _ => call_new 1 l, ?_⟩
  conv => whnf
  refine ⟨_, fun _ => call11 ⟨l, 0⟩ (by dsimp only; omega), ?_⟩
  have ha0 := tab_ok ⟨l, 0⟩
  have hat := tab_at ⟨l, 0⟩
  dsimp only at hat
  generalize (tabF ⟨l, 0⟩).2 = D at hat ⊢
  generalize (tabF ⟨l, 0⟩).1 = x at ha0 hat ⊢
  conv => whnf
  refine ⟨_, fun _ => call11 D (by omega), ?_⟩
  have hb0 := tab_ok D
  generalize (tabF D).2 = D2
  generalize (tabF D).1 = y at hb0 ⊢
  conv => whnf
  refine ⟨_, fun _ => call_new 1 l, ?_⟩
  conv => whnf
  refine ⟨_, fun _ => call11 ⟨l, 0⟩ (by dsimp only; omega), ?_⟩
  have hc0 := tab_ok ⟨l, 0⟩
  generalize (tabF ⟨l, 0⟩).2 = D3
  generalize (tabF ⟨l, 0⟩).1 = z at hc0 ⊢
  have hx := check_ok ha0
  have hy := check_ok hb0
  have hz := check_ok hc0
  have z1 := hz.l1
  have z2 := hz.l2
  have z3 := hz.l3
  have m1 : 0 ≤ at_ % (z.rel.length : Int) := Int.emod_nonneg _ (by omega)
  have m2 : at_ % (z.rel.length : Int) < (z.rel.length : Int) := Int.emod_lt_of_pos _ (by omega)
  conv => whnf
  refine ⟨_, fun _ => call_mod at_ (z.rel.length : Int) (by omega) (by omega), ?_⟩
  conv => whnf
  refine ⟨rfl, ?_⟩
  refine ⟨?_, ?_⟩
  · exact g0
  have hrow := hz.row (i := (at_ % (z.rel.length : Int)).toNat) (by omega)
  generalize hR : (z.rel.getD (at_ % (z.rel.length : Int)).toNat default) = R
  refine LSem.weak (n := 130) (fl := [(2, .int .i64 level), (3, .int .i64 inflow), (5, .int .i64 by_), (7, .pt 112 0 0), (14, .pt 224 0 0), (15, .pt 240 0 0), (16, .pt 256 0 0), (17, .sl 0 1 R.length (fl eInt R))])
    (sl := [(112, .box (eFT 1 1 raw)), (224, .box (eFT 0 0 x)), (240, .box (eFT 0 0 y)), (256, .box (eFT 0 0 z))]) ?_ ?_
  · subst hR
    refine ⟨rfl, rfl, ?_, ?_⟩
    all_goals repeat' (first | exact True.intro | refine leF_cons rfl ?_ ?_ | refine leS_cons rfl ?_ ?_ | (show PLe _ _ _ _; conv => whnf) | (show SLe _ _ _ _; conv => whnf) | (show PLeL _ _ _ _; conv => whnf) | apply And.intro | rfl | exact Nat.le_refl _ | exact fun _ _ => rfl | exact rowEq0 _ _)
  refine LSem.havMeet (n := 130) mix (α := FT × FT × FT × FT) (fun q => Big q.1 ∧ Big q.2.1 ∧ Big q.2.2.1 ∧ Big q.2.2.2)
    (fun q => [(2, .int .i64 level), (3, .int .i64 inflow), (7, .pt 112 0 0), (14, .pt 224 0 0), (15, .pt 240 0 0), (16, .pt 256 0 0)])
    (fun q => [(112, .box (eFT 2 0 q.1)), (224, .box (eFT 2 0 q.2.1)), (240, .box (eFT 2 0 q.2.2.1)), (256, .box (eFT 2 0 q.2.2.2))])
    (pre := [⟨(some 54), 864, none, .mv (.t 17)⟩, ⟨(some 55), 880, none, .mv (.t 5)⟩, ⟨(some 56), 896, none, .mv (.t 17)⟩, ⟨(some 57), 912, none, .len (.t 56)⟩,
      ⟨(some 58), 928, none, .call (.c (.fn (.func 20) [] [])) [(.t 55), (.t 57)]⟩, ⟨(some 59), 944, none, .mv (.t 5)⟩, ⟨(some 60), 960, none, .ia 1 (.t 54) (.t 58)⟩]) (id := 0) (x := .t 60) (y := .t 59) rfl ?_ ?_
  · have hRl : R.length = z.inf.length := by rw [← hR]; exact hrow
    have k1 : 0 ≤ by_ % (R.length : Int) := Int.emod_nonneg _ (by omega)
    have k2 : by_ % (R.length : Int) < (R.length : Int) := Int.emod_lt_of_pos _ (by omega)
    conv => whnf
    refine ⟨_, fun _ => call_mod by_ (R.length : Int) (by omega) (by omega), ?_⟩
    conv => whnf
    refine ⟨?_, _, _, _, rfl, rfl, fun s2 hs => ?_⟩
    · exact g0
    have q7 := hs.fr 7 _ rfl
    have q14 := hs.fr 14 _ rfl
    have q15 := hs.fr 15 _ rfl
    have q16 := hs.fr 16 _ rfl
    have q2 := hs.fr 2 _ rfl
    have q3 := hs.fr 3 _ rfl
    obtain ⟨_, q7, h7⟩ := q7
    obtain ⟨_, q14, h14⟩ := q14
    obtain ⟨_, q15, h15⟩ := q15
    obtain ⟨_, q16, h16⟩ := q16
    obtain ⟨_, q2, h2⟩ := q2
    obtain ⟨_, q3, h3⟩ := q3
    have h7 := h7.pt_
    have h14 := h14.pt_
    have h15 := h15.pt_
    have h16 := h16.pt_
    have h2 := h2.int_
    have h3 := h3.int_
    subst h7 h14 h15 h16 h2 h3
    obtain ⟨e1, g1, b1⟩ := hs.st 112 _ rfl
    obtain ⟨e2, g2, b2⟩ := hs.st 224 _ rfl
    obtain ⟨e3, g3, b3⟩ := hs.st 240 _ rfl
    obtain ⟨e4, g4, b4⟩ := hs.st 256 _ rfl
    obtain ⟨t1, a1, c1⟩ := hav_table b1
    obtain ⟨t2, a2, c2⟩ := hav_table b2
    obtain ⟨t3, a3, c3⟩ := hav_table b3
    obtain ⟨t4, a4, c4⟩ := hav_table b4
    refine ⟨(t1, t2, t3, t4), ⟨hraw.shape a1, (Big.tab hx).shape a2, (Big.tab hy).shape a3, (Big.tab hz).shape a4⟩, ⟨hs.n.symm, fun t p hp => ?_, fun r => ?_, fun r e hr => ?_⟩⟩
    · have hm := frL_mem hp
      simp only [List.mem_cons, Prod.mk.injEq, List.not_mem_nil, or_false] at hm
      rcases hm with ⟨rfl, rfl⟩ | ⟨rfl, rfl⟩ | ⟨rfl, rfl⟩ | ⟨rfl, rfl⟩ | ⟨rfl, rfl⟩ | ⟨rfl, rfl⟩
      · exact ⟨_, q2, Sem.refl _⟩
      · exact ⟨_, q3, Sem.refl _⟩
      · exact ⟨_, q7, Sem.refl _⟩
      · exact ⟨_, q14, Sem.refl _⟩
      · exact ⟨_, q15, Sem.refl _⟩
      · exact ⟨_, q16, Sem.refl _⟩
    · by_cases r1 : r = 112
      · subst r1; rw [g1]; rfl
      by_cases r2 : r = 224
      · subst r2; rw [g2]; rfl
      by_cases r3 : r = 240
      · subst r3; rw [g3]; rfl
      by_cases r4 : r = 256
      · subst r4; rw [g4]; rfl
      have hn : stL [(112, SE.box (eFT 1 1 raw)), (224, .box (eFT 0 0 x)), (240, .box (eFT 0 0 y)), (256, .box (eFT 0 0 z))] r = none := by
        simp only [stL, upd_eq, r1, r2, r3, r4, if_false]
      rw [hs.stN r hn]
      show (stL [(112, SE.box (eFT 2 0 t1)), (224, .box (eFT 2 0 t2)), (240, .box (eFT 2 0 t3)), (256, .box (eFT 2 0 t4))] r).isSome = _
      simp only [stL, upd_eq, r1, r2, r3, r4, if_false]
    · have hm := stL_mem hr
      simp only [List.mem_cons, Prod.mk.injEq, List.not_mem_nil, or_false] at hm
      rcases hm with ⟨rfl, rfl⟩ | ⟨rfl, rfl⟩ | ⟨rfl, rfl⟩ | ⟨rfl, rfl⟩
      · exact ⟨_, g1, c1 2 0 (by decide)⟩
      · exact ⟨_, g2, c2 2 0 (by decide)⟩
      · exact ⟨_, g3, c3 2 0 (by decide)⟩
      · exact ⟨_, g4, c4 2 0 (by decide)⟩
  · rintro ⟨t1, t2, t3, t4⟩ ⟨n1, n2, n3, n4⟩
    dsimp only at n1 n2 n3 n4 ⊢
    clear hrow m1 m2 z1 z2 z3 hx hy hz ha0 hb0 hc0 hR hat
    obtain ⟨L, hL⟩ : ∃ L, L = [t1, t2, t4] := ⟨_, rfl⟩
    have hLb : ∀ i, i < 3 → Big (L.getD i default) := fun i hi => by
      rw [hL]
      match i, hi with
      | 0, _ => exact n1
      | 1, _ => exact n2
      | 2, _ => exact n4
    conv => whnf
    refine ⟨?_, ?_⟩
    · exact g0
    refine LSem.loop (n := 130) mix (α := Nat) (fun i => i ≤ 3)
      (fun i => [(2, .int .i64 level), (3, .int .i64 inflow), (15, .pt 240 0 0), (64, .os 1024), (65, .int .i64 3), (66, .int .i64 i)])
      (fun i => [(240, .box (eFT 2 0 t3)), (1024, .row 2 25 3 3 (fl (eFT 2 0) L))]) (fun i => 3 - i) 0 ?_ ?_ ?_
    · exact Nat.zero_le _
    · refine ⟨rfl, rfl, ?_, ?_⟩
      all_goals repeat' (first | exact True.intro | refine leF_cons rfl ?_ ?_ | refine leS_cons rfl ?_ ?_ | (show PLe _ _ _ _; conv => whnf) | (show SLe _ _ _ _; conv => whnf) | (show PLeL _ _ _ _; conv => whnf) | apply And.intro | rfl | exact Nat.le_refl _ | exact fun _ _ => rfl | exact rowEq0 _ _)
      all_goals first | (rw [hL]; exact rowEq3 rfl rfl rfl) | skip
    · intro i hi
      have hji : ((i : Int)).toNat = i := by omega
      conv => whnf
      refine ⟨trivial, fun hc2 => ?_, fun hc2 => ?_⟩
      · replace hc2 := of_decide_eq_true hc2
        have hlt : i < 3 := by
          have h : (i : Int) < 3 := hc2
          omega
        have hb := hLb i hlt
        conv => whnf
        rw [hji]
        generalize L.getD i default = a at hb ⊢
        refine ⟨_, fun _ => call19 1 0 a level inflow hb.lv hb.inf hb.rel hb.row, ?_⟩
        conv => whnf
        refine ⟨_, fun _ => call21 0 a level inflow hb.lv hb.inf hb.rel hb.row, ?_⟩
        conv => whnf
        refine ⟨_, fun _ => call22 2 0 a hb.lv hb.inf hb.rel hb.row, ?_⟩
        conv => whnf
        refine ⟨_, fun _ => call23 0 a hb.lv hb.inf hb.rel hb.row, ?_⟩
        generalize relF a level inflow = r
        generalize checkF a = e
        conv => whnf
        refine ⟨rfl, ?_⟩
        refine ⟨?_, fun h => ?_, fun _ => ?_⟩
        · exact g0
        · exfalso
          revert h
          simp
        conv => whnf
        refine ⟨_, fun _ => call24 0 0 a t3 hb.lv hb.inf hb.rel hb.row n3.lv n3.inf n3.rel n3.row, ?_⟩
        conv => whnf
        refine ⟨_, fun _ => call25 0 0 a t3 hb.lv hb.inf hb.rel hb.row n3.lv n3.inf n3.rel n3.row, ?_⟩
        have hj := big_join a t3
        generalize joinF a t3 = J at hj ⊢
        conv => whnf
        refine ⟨_, fun _ => PureCall.arg_le (call16 0 0 J.1 J.1 hj.lv hj.inf hj.rel hj.row) rfl (by
          all_goals repeat' (first | exact True.intro | refine leF_cons rfl ?_ ?_ | refine leS_cons rfl ?_ ?_ | (show PLe _ _ _ _; conv => whnf) | (show SLe _ _ _ _; conv => whnf) | (show PLeL _ _ _ _; conv => whnf) | apply And.intro | rfl | exact Nat.le_refl _ | exact fun _ _ => rfl | exact rowEq0 _ _)
          all_goals first | omega | exact (by decide) | skip), ?_⟩
        conv => whnf
        refine ⟨_, fun _ => call18 1 1 0 0 a t3 hb.lv hb.inf hb.rel hb.row, ?_⟩
        conv => whnf
        refine ⟨_, fun _ => call16 0 0 a t3 hb.lv hb.inf hb.rel hb.row, ?_⟩
        rw [same_iff.2 rfl]
        generalize sameF a t3 = S
        conv => whnf
        refine ⟨rfl, ?_⟩
        refine ⟨?_, fun h => ?_, fun _ => ?_⟩
        · exact g0
        · exfalso
          revert h
          simp
        conv => whnf
        refine ⟨?_, i + 1, hlt, ?_, rfl, rfl, ?_, ?_⟩
        · exact g0
        · omega
        all_goals repeat' (first | exact True.intro | refine leF_cons rfl ?_ ?_ | refine leS_cons rfl ?_ ?_ | (show PLe _ _ _ _; conv => whnf) | (show SLe _ _ _ _; conv => whnf) | (show PLeL _ _ _ _; conv => whnf) | apply And.intro | rfl | exact Nat.le_refl _ | exact fun _ _ => rfl | exact rowEq0 _ _)
        all_goals first | omega | skip
      · conv => whnf
        refine ⟨?_, [], ?_⟩
        · exact g0
        conv => whnf
        refine ⟨rfl, ?_, trivial, trivial⟩
        all_goals repeat' (first | exact True.intro | refine leF_cons rfl ?_ ?_ | refine leS_cons rfl ?_ ?_ | (show PLe _ _ _ _; conv => whnf) | (show SLe _ _ _ _; conv => whnf) | (show PLeL _ _ _ _; conv => whnf) | apply And.intro | rfl | exact Nat.le_refl _ | exact fun _ _ => rfl | exact rowEq0 _ _)
end Pv
end Go.Proofs.YtcfcmafmdpbjoaaDoor
