/- THE LIBRARY's strings.Builder: what its functions leave of the builder, and that nothing else changes. -/
import Derived.Lib.FieldsP
import Derived.Lib.SpaceUEq
import Derived.Lib.TrimAscii
import Derived.Lib.Join
import Derived.Lib.SlTrimSet
import Derived.Lib.Atoi
import Derived.Shelf.Strings.Split
import Derived.Shelf.Strings.Cut
import Derived.Test.YtdcgnfkkklbckaaGreatDoorZtf
import Derived.Lib.ItoaLen
import Derived.Shelf.Strings.BuilderK
/- WORDS OF A TEXT: parts between bytes of a kind; what strings.FieldsFunc gives where blanks and line feeds part the words. No program in sight. -/
set_option linter.unusedSimpArgs false
set_option linter.unusedVariables false
namespace Go.Proofs.YtdcgnfkkklbckaaGreatDoor
namespace Pv
open Go.Lib
def splitP (p : UInt8 → Bool) : List UInt8 → List (List UInt8)
  | [] => [[]]
  | x :: xs => if p x = true then [] :: splitP p xs else match splitP p xs with
    | [] => [[x]]
    | h :: t => (x :: h) :: t
def wordsB (p : UInt8 → Bool) (l : List UInt8) : List (List UInt8) := (splitP p l).filter fun x => !x.isEmpty
def isBl (b : UInt8) : Bool := b == 32 || b == 10
theorem isBl_iff (b : UInt8) : isBl b = true ↔ b = 32 ∨ b = 10 := by simp [isBl]
theorem isBl_not {b : UInt8} (h : ¬ (b = 32 ∨ b = 10)) : isBl b = false := by
  cases hb : isBl b with
  | false => rfl
  | true => exact absurd ((isBl_iff b).1 hb) h
theorem splitP_sep (p : UInt8 → Bool) : ∀ (u : List UInt8) (c : UInt8) (t : List UInt8), (∀ x ∈ u, p x = false) → p c = true → splitP p (u ++ c :: t) = u :: splitP p t
  | [], c, t, _, hc => by simp [splitP, hc]
  | x :: u, c, t, hu, hc => by
    have ih := splitP_sep p u c t (fun y hy => hu y (List.mem_cons_of_mem _ hy)) hc
    have hx := hu x (List.mem_cons_self ..)
    simp [splitP, hx, ih]
theorem splitP_none (p : UInt8 → Bool) : ∀ (u : List UInt8), (∀ x ∈ u, p x = false) → splitP p u = [u]
  | [], _ => rfl
  | x :: u, hu => by
    have ih := splitP_none p u fun y hy => hu y (List.mem_cons_of_mem _ hy)
    have hx := hu x (List.mem_cons_self ..)
    simp [splitP, hx, ih]
theorem words_sep {p : UInt8 → Bool} {u : List UInt8} {c : UInt8} {t : List UInt8} (hu : ∀ x ∈ u, p x = false) (h0 : u ≠ []) (hc : p c = true) : wordsB p (u ++ c :: t) = u :: wordsB p t := by
  unfold wordsB
  rw [splitP_sep p u c t hu hc, List.filter_cons_of_pos (by simp [h0])]
theorem words_blank {p : UInt8 → Bool} {c : UInt8} {t : List UInt8} (hc : p c = true) : wordsB p (c :: t) = wordsB p t := by
  unfold wordsB
  rw [show c :: t = [] ++ c :: t from rfl, splitP_sep p [] c t (by simp) hc, List.filter_cons_of_neg (by simp)]
theorem words_none {p : UInt8 → Bool} {u : List UInt8} (hu : ∀ x ∈ u, p x = false) (h0 : u ≠ []) : wordsB p u = [u] := by
  unfold wordsB
  rw [splitP_none p u hu, List.filter_cons_of_pos (by simp [h0]), List.filter_nil]
theorem words_nil (p : UInt8 → Bool) : wordsB p [] = [] := rfl
theorem blank_rune (l : List UInt8) (hne : l ≠ []) (h : (decodeL l).1 = 32 ∨ (decodeL l).1 = 10) : (decodeL l).2 = 1 ∧ (l.getD 0 0 = 32 ∨ l.getD 0 0 = 10) := by
  rw [decodeL_N] at h ⊢
  have h0 := UInt8.toNat_lt (l.getD 0 0)
  have key : ∀ n b0 b1 b2 b3 : Nat, ((decodeN n b0 b1 b2 b3).1 = 32 → (decodeN n b0 b1 b2 b3).2 = 1 ∧ b0 = 32) ∧ ((decodeN n b0 b1 b2 b3).1 = 10 → (decodeN n b0 b1 b2 b3).2 = 1 ∧ b0 = 10) := by
    intro n b0 b1 b2 b3
    unfold decodeN
    repeat' split
    all_goals (refine ⟨fun h => ?_, fun h => ?_⟩ <;> dsimp only at h ⊢ <;> omega)
  rcases h with h | h
  · obtain ⟨k1, k2⟩ := (key _ _ _ _ _).1 h
    exact ⟨k1, .inl (UInt8.toNat_inj.1 k2)⟩
  · obtain ⟨k1, k2⟩ := (key _ _ _ _ _).2 h
    exact ⟨k1, .inr (UInt8.toNat_inj.1 k2)⟩
theorem other_rune (l : List UInt8) (hne : l ≠ []) (h : ¬ ((decodeL l).1 = 32 ∨ (decodeL l).1 = 10)) : 1 ≤ (decodeL l).2 ∧ (decodeL l).2 ≤ l.length ∧ ∀ j, j < (decodeL l).2 → ¬ (l.getD j 0 = 32 ∨ l.getD j 0 = 10) := by
  have hl : 0 < l.length := List.length_pos_iff.2 hne
  have hc := decodeN_conts l.length (l.getD 0 0).toNat (l.getD 1 0).toNat (l.getD 2 0).toNat (l.getD 3 0).toNat
  have ha : (l.getD 0 0 = 32 ∨ l.getD 0 0 = 10) → ((decodeL l).1 = 32 ∨ (decodeL l).1 = 10) := fun e => by
    rw [decodeL_N]
    rcases e with e | e
    · rw [e, show (32 : UInt8).toNat = 32 from rfl]
      exact .inl (by unfold decodeN; rfl)
    · rw [e, show (10 : UInt8).toNat = 10 from rfl]
      exact .inr (by unfold decodeN; rfl)
  rw [← decodeL_N] at hc
  obtain ⟨c2, c3, c4, c5⟩ := hc
  have hw := decodeL_width l
  refine ⟨hw, by omega, fun j hj e => ?_⟩
  have hlow : ∀ b : UInt8, (b = 32 ∨ b = 10) → b.toNat ≤ 32 := fun b hb => by
    rcases hb with rfl | rfl <;> decide
  have hle := hlow _ e
  match j, hj, e, hle with
  | 0, _, e, _ => exact h (ha e)
  | 1, hj, e, hle => have := (c2 (by omega)).1; omega
  | 2, hj, e, hle => have := (c3 (by omega)).1; omega
  | 3, hj, e, hle => have := (c4 (by omega)).1; omega
  | j + 4, hj, _, _ => omega
def pcs (l : List UInt8) (acc : List (Nat × Nat)) : List (List UInt8) := acc.map fun x => (l.take x.2).drop x.1
theorem spans_words (l : List UInt8) : ∀ (f pos : Nat) (st : Option Nat) (acc : List (Nat × Nat)), pos ≤ l.length → l.length ≤ f + pos → (∀ a, st = some a → a < pos ∧ ∀ j, a ≤ j → j < pos → ¬ (l.getD j 0 = 32 ∨ l.getD j 0 = 10)) →
    pcs l (closeSpans ⟨l.toArray⟩ (spansFromP (fun r => decide ((r : Int) = 32 ∨ (r : Int) = 10)) ⟨l.toArray⟩ f pos st acc)) = pcs l acc ++ wordsB isBl (l.drop (st.getD pos)) := by
  intro f
  have hsz : (⟨l.toArray⟩ : ByteArray).size = l.length := rfl
  have hfin : ∀ (st : Option Nat) (acc : List (Nat × Nat)), (∀ a, st = some a → a < l.length ∧ ∀ j, a ≤ j → j < l.length → ¬ (l.getD j 0 = 32 ∨ l.getD j 0 = 10)) → pcs l (closeSpans ⟨l.toArray⟩ (acc, st)) = pcs l acc ++ wordsB isBl (l.drop (st.getD l.length)) := by
    intro st acc hst
    cases st with
    | none => simp [closeSpans, words_nil]
    | some a =>
      obtain ⟨h1, h2⟩ := hst a rfl
      have hne : l.drop a ≠ [] := by
        intro h0
        have := congrArg List.length h0
        rw [List.length_drop] at this
        simp at this; omega
      have hno : ∀ x ∈ l.drop a, isBl x = false := fun x hx => by
        obtain ⟨k, hk⟩ := List.getElem?_of_mem hx
        rw [List.getElem?_drop] at hk
        have hlt := (List.getElem?_eq_some_iff.1 hk).1
        have := h2 (a + k) (by omega) hlt
        simp only [List.getD, hk, Option.getD_some] at this
        exact isBl_not this
      simp only [Option.getD_some]
      rw [words_none hno hne]
      simp [closeSpans, pcs, hsz]
  induction f with
  | zero =>
    intro pos st acc hp hf hst
    have : pos = l.length := by omega
    subst this
    exact hfin st acc hst
  | succ f ih =>
    intro pos st acc hp hf hst
    by_cases hlt : pos < l.length
    · have hd := decodeL_drop ⟨l.toArray⟩ pos
      have hdt : (⟨l.toArray⟩ : ByteArray).data.toList = l := rfl
      rw [hdt] at hd
      have hne : l.drop pos ≠ [] := by
        intro h0
        have := congrArg List.length h0
        rw [List.length_drop] at this
        simp at this; omega
      unfold spansFromP
      rw [hsz, if_pos hlt, ← hd]
      have hcons : l.drop pos = l.getD pos 0 :: l.drop (pos + 1) := by
        rw [List.drop_eq_getElem_cons hlt]; simp [List.getD, hlt]
      by_cases hr : (decodeL (l.drop pos)).1 = 32 ∨ (decodeL (l.drop pos)).1 = 10
      · obtain ⟨hk, hb⟩ := blank_rune _ hne hr
        have hb' : l.getD pos 0 = 32 ∨ l.getD pos 0 = 10 := by rw [getD_dropU] at hb; simpa using hb
        have hbl : isBl (l.getD pos 0) = true := (isBl_iff _).2 hb'
        rw [if_pos (decide_eq_true (by omega)), hk]
        cases st with
        | none =>
          show pcs l (closeSpans _ (spansFromP _ _ f (pos + 1) none acc)) = _
          rw [ih (pos + 1) none acc hlt (by omega) (fun a h => by cases h)]
          simp only [Option.getD_none]
          rw [hcons, words_blank hbl]
        | some a =>
          obtain ⟨h1, h2⟩ := hst a rfl
          show pcs l (closeSpans _ (spansFromP _ _ f (pos + 1) none (acc ++ [(a, pos)]))) = _
          rw [ih (pos + 1) none _ hlt (by omega) (fun a h => by cases h)]
          simp only [Option.getD_none, Option.getD_some]
          have hsplit : l.drop a = (l.take pos).drop a ++ l.getD pos 0 :: l.drop (pos + 1) := by
            rw [← hcons]
            have e : l = l.take pos ++ l.drop pos := (List.take_append_drop pos l).symm
            have : l.drop a = (l.take pos ++ l.drop pos).drop a := by rw [← e]
            rw [this, List.drop_append_of_le_length (by rw [List.length_take]; omega)]
          have hno : ∀ x ∈ (l.take pos).drop a, isBl x = false := fun x hx => by
            obtain ⟨k, hk⟩ := List.getElem?_of_mem hx
            rw [List.getElem?_drop, List.getElem?_take] at hk
            split at hk
            · have := h2 (a + k) (by omega) (by omega)
              simp only [List.getD, hk, Option.getD_some] at this
              exact isBl_not this
            · cases hk
          have hne2 : (l.take pos).drop a ≠ [] := by
            intro h0
            have := congrArg List.length h0
            rw [List.length_drop, List.length_take] at this
            simp at this; omega
          rw [hsplit, words_sep hno hne2 hbl]
          simp [pcs]
      · obtain ⟨k1, k2, k3⟩ := other_rune _ hne hr
        rw [List.length_drop] at k2
        have k3' : ∀ j, pos ≤ j → j < pos + (decodeL (l.drop pos)).2 → ¬ (l.getD j 0 = 32 ∨ l.getD j 0 = 10) := fun j h1 h2 => by
          have := k3 (j - pos) (by omega)
          rw [getD_dropU, show pos + (j - pos) = j by omega] at this
          exact this
        rw [if_neg (fun hd => hr (by have := of_decide_eq_true hd; omega))]
        cases st with
        | none =>
          show pcs l (closeSpans _ (spansFromP _ _ f (pos + (decodeL (l.drop pos)).2) (some pos) acc)) = _
          rw [ih _ (some pos) acc (by omega) (by omega) (fun a h => by injection h with h; subst h; exact ⟨by omega, k3'⟩)]
          rfl
        | some a =>
          obtain ⟨h1, h2⟩ := hst a rfl
          show pcs l (closeSpans _ (spansFromP _ _ f (pos + (decodeL (l.drop pos)).2) (some a) acc)) = _
          rw [ih _ (some a) acc (by omega) (by omega) (fun a' h => by
            injection h with h; subst h
            refine ⟨by omega, fun j g1 g2 => ?_⟩
            by_cases e : j < pos
            · exact h2 j g1 e
            · exact k3' j (by omega) g2)]
          rfl
    · have : pos = l.length := by omega
      subst this
      rw [spansFromP_end _ _ _ _ _ _ (by rw [hsz]; omega)]
      exact hfin st acc hst
theorem fields_words (s : List UInt8) : (goFieldsP (fun r => decide ((r : Int) = 32 ∨ (r : Int) = 10)) ⟨s.toArray⟩).map (fun x => x.data.toList) = wordsB isBl s := by
  have h := spans_words s s.length 0 none [] (Nat.zero_le _) (Nat.le_refl _) (fun a h => by cases h)
  simp only [Option.getD_none, List.drop_zero] at h
  have e : pcs s [] ++ wordsB isBl s = wordsB isBl s := rfl
  rw [e] at h
  rw [← h]
  unfold goFieldsP spansOfP pcs
  rw [List.map_map]
  refine List.map_congr_left fun x _ => ?_
  show ((⟨s.toArray⟩ : ByteArray).extract x.1 x.2).data.toList = _
  simp [List.extract, List.drop_take]
end Pv
end Go.Proofs.YtdcgnfkkklbckaaGreatDoor
/- LAW 13, PLAIN: words of texts: how long they are together; joined by single blanks they are the same. No program in sight. -/
set_option linter.unusedSimpArgs false
set_option linter.unusedVariables false
namespace Go.Proofs.YtdcgnfkkklbckaaGreatDoor
namespace Pv
def lensL (l : List (List UInt8)) : Nat := (l.map List.length).sum
theorem splitP_ne (p : UInt8 → Bool) (l : List UInt8) : splitP p l ≠ [] := by
  cases l with
  | nil => simp [splitP]
  | cons x xs =>
    unfold splitP
    split
    · simp
    · split <;> simp
theorem splitP_sum (p : UInt8 → Bool) : ∀ l : List UInt8, lensL (splitP p l) + l.countP p = l.length
  | [] => by simp [splitP, lensL]
  | x :: xs => by
    have ih := splitP_sum p xs
    have hne := splitP_ne p xs
    unfold splitP
    cases hx : p x with
    | true =>
      rw [if_pos rfl, List.countP_cons_of_pos hx]
      simp only [lensL, List.map_cons, List.length_nil, List.sum_cons, List.length_cons] at ih ⊢
      omega
    | false =>
      rw [if_neg (by simp), List.countP_cons_of_neg (by simp [hx])]
      cases hs : splitP p xs with
      | nil => exact absurd hs hne
      | cons h t =>
        rw [hs] at ih
        simp only [lensL, List.map_cons, List.sum_cons, List.length_cons] at ih ⊢
        omega
theorem filter_sum : ∀ l : List (List UInt8), lensL (l.filter fun x => !x.isEmpty) = lensL l
  | [] => rfl
  | x :: l => by
    have ih := filter_sum l
    cases x with
    | nil =>
      rw [List.filter_cons_of_neg (by simp), ih]
      simp [lensL]
    | cons b r =>
      rw [List.filter_cons_of_pos (by simp)]
      simp only [lensL, List.map_cons, List.sum_cons] at ih ⊢
      omega
theorem countP_bl : ∀ l : List UInt8, l.countP isBl = l.count 32 + l.count 10
  | [] => rfl
  | x :: l => by
    have ih := countP_bl l
    by_cases h1 : x = 32
    · subst h1
      rw [List.countP_cons_of_pos (by rfl), List.count_cons_self, List.count_cons_of_ne (by decide), ih]; omega
    · by_cases h2 : x = 10
      · subst h2
        rw [List.countP_cons_of_pos (by rfl), List.count_cons_self, List.count_cons_of_ne (by decide), ih]; omega
      · rw [List.countP_cons_of_neg (by rw [isBl_not (fun h => h.elim h1 h2)]; decide), List.count_cons_of_ne h1, List.count_cons_of_ne h2, ih]
theorem words_sum (l : List UInt8) : lensL (wordsB isBl l) + l.count 32 + l.count 10 = l.length := by
  have h1 := splitP_sum isBl l
  have h2 := filter_sum (splitP isBl l)
  have h3 := countP_bl l
  unfold wordsB
  omega
theorem splitP_mem (p : UInt8 → Bool) : ∀ (l : List UInt8) (x : List UInt8), x ∈ splitP p l → ∀ b ∈ x, p b = false
  | [], x, h, b, hb => by
    simp [splitP] at h; subst h; simp at hb
  | y :: ys, x, h, b, hb => by
    have ih := splitP_mem p ys
    unfold splitP at h
    cases hy : p y with
    | true =>
      rw [hy, if_pos rfl] at h
      rcases List.mem_cons.1 h with rfl | h
      · simp at hb
      · exact ih x h b hb
    | false =>
      rw [hy, if_neg (by simp)] at h
      cases hs : splitP p ys with
      | nil => exact absurd hs (splitP_ne p ys)
      | cons z t =>
        rw [hs] at h ih
        dsimp only at h
        rcases List.mem_cons.1 h with rfl | h
        · rcases List.mem_cons.1 hb with rfl | hb
          · exact hy
          · exact ih z (by simp) b hb
        · exact ih x (by simp [h]) b hb
def WordOK (p : UInt8 → Bool) (x : List UInt8) : Prop := x ≠ [] ∧ ∀ b ∈ x, p b = false
theorem words_ok (p : UInt8 → Bool) (l : List UInt8) : ∀ x ∈ wordsB p l, WordOK p x := fun x hx => by
  unfold wordsB at hx
  obtain ⟨h1, h2⟩ := List.mem_filter.1 hx
  exact ⟨by rintro rfl; simp at h2, splitP_mem p l x h1⟩
theorem words_app (p : UInt8 → Bool) (u : List UInt8) (c : UInt8) (hc : p c = true) (t : List UInt8) : wordsB p (u ++ c :: t) = wordsB p u ++ wordsB p t := by
  induction u with
  | nil => simp [words_blank hc, words_nil]
  | cons x u ih =>
    cases hx : p x with
    | true => rw [List.cons_append, words_blank hx, words_blank hx, ih]
    | false =>
      -- the part at hand
      unfold wordsB at ih ⊢
      rw [List.cons_append]
      have key : ∃ h r, splitP p u = h :: r ∧ splitP p (u ++ c :: t) = h :: (r ++ splitP p t) := by
        clear ih
        induction u with
        | nil => exact ⟨[], [], rfl, by simp [splitP, hc]⟩
        | cons y u ih2 =>
          obtain ⟨h, r, e1, e2⟩ := ih2
          cases hy : p y with
          | true =>
            refine ⟨[], splitP p u, by simp [splitP, hy], ?_⟩
            rw [List.cons_append]
            simp only [splitP, hy, if_true]
            rw [e2, e1]; rfl
          | false =>
            refine ⟨y :: h, r, by simp [splitP, hy, e1], ?_⟩
            rw [List.cons_append]
            simp [splitP, hy, e2]
      obtain ⟨h, r, e1, e2⟩ := key
      have hs : ∀ v h r, splitP p v = h :: r → splitP p (x :: v) = (x :: h) :: r := fun v h r e => by simp [splitP, hx, e]
      rw [hs _ _ _ e1, hs _ _ _ e2]
      simp
theorem words_one {p : UInt8 → Bool} {x : List UInt8} (h : WordOK p x) : wordsB p x = [x] := words_none h.2 h.1
theorem join_cons (x : List UInt8) (y : List UInt8) (r : List (List UInt8)) : [32].intercalate (x :: y :: r) = x ++ 32 :: [32].intercalate (y :: r) := by
  simp [List.intercalate, List.intersperse]
theorem words_join : ∀ {w : List (List UInt8)}, (∀ x ∈ w, WordOK isBl x) → wordsB isBl ([32].intercalate w) = w
  | [], _ => rfl
  | [x], h => by
    have : [32].intercalate [x] = x := by simp [List.intercalate]
    rw [this]
    exact words_one (h x (by simp))
  | x :: y :: r, h => by
    rw [join_cons, words_app isBl x 32 rfl, words_one (h x (by simp)), words_join (w := y :: r) (fun z hz => h z (by simp [hz]))]
    rfl
theorem join_len : ∀ (w : List (List UInt8)), ([32].intercalate w).length ≤ lensL w + w.length
  | [] => by simp [List.intercalate]
  | [x] => by simp [List.intercalate, lensL]
  | x :: y :: r => by
    have ih := join_len (y :: r)
    rw [join_cons]
    simp only [lensL, List.map_cons, List.sum_cons, List.length_append, List.length_cons] at ih ⊢
    omega
end Pv
end Go.Proofs.YtdcgnfkkklbckaaGreatDoor
/- LAW 13, PLAIN: numbers of 1 to 10 digits: by strings.Trim and strconv.Atoi, and digit by digit. No program in sight. -/
set_option linter.unusedSimpArgs false
set_option linter.unusedVariables false
namespace Go.Proofs.YtdcgnfkkklbckaaGreatDoor
namespace Pv
def digs : Int → List UInt8 → Option Int
  | a, [] => some a
  | a, c :: cs => if c.toNat < 48 ∨ 57 < c.toNat then none else digs (10 * a + ((c.toNat : Int) - 48)) cs
def numF (s : List UInt8) : Option Int := if s.length < 1 ∨ 10 < s.length then none else digs 0 s
def digT : List UInt8 := [48, 49, 50, 51, 52, 53, 54, 55, 56, 57]
theorem digT_iff (b : UInt8) : digT.contains b = true ↔ 48 ≤ b.toNat ∧ b.toNat ≤ 57 := by
  constructor
  · intro h
    have h2 : b ∈ digT := by simpa using h
    unfold digT at h2
    simp only [List.mem_cons, List.not_mem_nil, or_false] at h2
    rcases h2 with rfl | rfl | rfl | rfl | rfl | rfl | rfl | rfl | rfl | rfl <;> decide
  · intro ⟨h1, h2⟩
    have e : b = UInt8.ofNat b.toNat := by simp
    rw [e]
    generalize b.toNat = n at h1 h2
    have : n = 48 ∨ n = 49 ∨ n = 50 ∨ n = 51 ∨ n = 52 ∨ n = 53 ∨ n = 54 ∨ n = 55 ∨ n = 56 ∨ n = 57 := by omega
    rcases this with rfl | rfl | rfl | rfl | rfl | rfl | rfl | rfl | rfl | rfl <;> decide
theorem dropWhile_nil {α : Type} (p : α → Bool) : ∀ l : List α, l.dropWhile p = [] ↔ ∀ x ∈ l, p x = true
  | [] => by simp
  | x :: l => by
    have ih := dropWhile_nil p l
    cases h : p x with
    | true => rw [List.dropWhile_cons_of_pos h, ih]; simp [h]
    | false => rw [List.dropWhile_cons_of_neg (by simp [h])]; simp [h]
theorem dropWhile_head {α : Type} (p : α → Bool) : ∀ (l : List α) (y : α) (r : List α), l.dropWhile p = y :: r → p y = false
  | [], y, r, h => by simp at h
  | x :: l, y, r, h => by
    cases hp : p x with
    | true => rw [List.dropWhile_cons_of_pos hp] at h; exact dropWhile_head p l y r h
    | false => rw [List.dropWhile_cons_of_neg (by simp [hp])] at h; injection h with h1 _; rw [← h1]; exact hp
theorem trim_nil (s : List UInt8) : Lib.trimS s digT = [] ↔ ∀ b ∈ s, 48 ≤ b.toNat ∧ b.toNat ≤ 57 := by
  have key : Lib.trimS s digT = [] ↔ ∀ b ∈ s, digT.contains b = true := by
    unfold Lib.trimS Lib.trimLeftS Lib.trimRightS
    rw [dropWhile_nil]
    cases hd : s.reverse.dropWhile (digT.contains ·) with
    | nil =>
      have := (dropWhile_nil _ _).1 hd
      simp only [List.mem_reverse] at this
      simp only [List.reverse_nil, List.not_mem_nil, false_implies, implies_true, true_iff]
      exact this
    | cons y r =>
      have hy := dropWhile_head _ _ _ _ hd
      constructor
      · intro h
        have := h y (by simp)
        rw [hy] at this; cases this
      · intro h
        have hm : y ∈ s.reverse.dropWhile (digT.contains ·) := by rw [hd]; simp
        have := h y (by
          have := (List.dropWhile_sublist _).subset hm
          simpa using this)
        rw [hy] at this; cases this
  rw [key]
  exact ⟨fun h b hb => (digT_iff b).1 (h b hb), fun h b hb => (digT_iff b).2 (h b hb)⟩
theorem digs_none : ∀ (s : List UInt8) (a : Int), digs a s = none ↔ ¬ ∀ b ∈ s, 48 ≤ b.toNat ∧ b.toNat ≤ 57
  | [], a => by simp [digs]
  | c :: cs, a => by
    have ih := digs_none cs
    unfold digs
    split
    · rename_i h
      simp only [List.mem_cons, forall_eq_or_imp, true_iff]
      intro hh; omega
    · rename_i h
      rw [ih]
      simp only [List.mem_cons, forall_eq_or_imp]
      constructor
      · intro h1 h2; exact h1 h2.2
      · intro h1 h2; exact h1 ⟨by omega, h2⟩
theorem digs_dec : ∀ (s : List UInt8) (a : Nat) (n : Int), digs a s = some n → ∃ m : Nat, n = m ∧ Lib.decFrom a s = some m ∧ m < (a + 1) * 10 ^ s.length
  | [], a, n, h => by
    simp only [digs, Option.some.injEq] at h
    exact ⟨a, h.symm, rfl, by simp⟩
  | c :: cs, a, n, h => by
    unfold digs at h
    split at h
    · cases h
    · rename_i hc
      have e : 10 * (a : Int) + ((c.toNat : Int) - 48) = ((a * 10 + (c.toNat - 48) : Nat) : Int) := by omega
      rw [e] at h
      obtain ⟨m, h1, h2, h3⟩ := digs_dec cs _ n h
      refine ⟨m, h1, ?_, ?_⟩
      · unfold Lib.decFrom Lib.digitVal
        rw [if_pos (by omega)]
        exact h2
      · rw [List.length_cons, Nat.pow_succ]
        have h4 : a * 10 + (c.toNat - 48) + 1 ≤ (a + 1) * 10 := by omega
        have h5 := Nat.mul_le_mul_right (10 ^ cs.length) h4
        have h6 : (a + 1) * 10 * 10 ^ cs.length = (a + 1) * (10 ^ cs.length * 10) := by rw [Nat.mul_assoc, Nat.mul_comm 10]
        omega
theorem num_atoi {s : List UInt8} {n : Int} (h : numF s = some n) : Lib.atoi s = some n ∧ 0 ≤ n ∧ n < 10000000000 := by
  unfold numF at h
  split at h
  · cases h
  rename_i hl
  obtain ⟨m, h1, h2, h3⟩ := digs_dec s 0 n h
  have hall : ∀ b ∈ s, 48 ≤ b.toNat ∧ b.toNat ≤ 57 := Classical.byContradiction fun hc => by
    rw [(digs_none s 0).2 hc] at h; cases h
  cases s with
  | nil => simp at hl
  | cons b r =>
    have hb := hall b (by simp)
    have hp : 10 ^ (b :: r).length ≤ 10 ^ 10 := Nat.pow_le_pow_right (by decide) (by omega)
    refine ⟨?_, by omega, ?_⟩
    · show (if b == 45 then (Lib.decNat r).map (fun (m : Nat) => -(m : Int)) else if b == 43 then (Lib.decNat r).map (fun (m : Nat) => (m : Int)) else (Lib.decNat (b :: r)).map fun (m : Nat) => (m : Int)) = some n
      rw [if_neg (by intro e; have := eq_of_beq e; subst this; revert hb; decide), if_neg (by intro e; have := eq_of_beq e; subst this; revert hb; decide)]
      unfold Lib.decNat
      rw [show (b :: r).isEmpty = false from rfl, if_neg (by decide)]
      have h2' : Lib.decFrom 0 (b :: r) = some m := h2
      rw [h2', h1]; rfl
    · have e10 : (10 : Nat) ^ 10 = 10000000000 := by decide
      omega
theorem num_none (s : List UInt8) : numF s = none ↔ s.length = 0 ∨ 10 < s.length ∨ Lib.trimS s digT ≠ [] := by
  unfold numF
  by_cases h : s.length < 1 ∨ 10 < s.length
  · rw [if_pos h]
    simp only [true_iff]
    rcases h with h | h
    · exact .inl (by omega)
    · exact .inr (.inl h)
  · rw [if_neg h, digs_none]
    rw [ne_eq, trim_nil]
    constructor
    · exact fun h2 => .inr (.inr h2)
    · rintro (h2 | h2 | h2)
      · omega
      · omega
      · exact h2
end Pv
end Go.Proofs.YtdcgnfkkklbckaaGreatDoor
/- PLAIN: texts cut at a byte. -/
set_option linter.unusedSimpArgs false
set_option linter.unusedVariables false
namespace Go.Proofs.YtdcgnfkkklbckaaGreatDoor
namespace Pv
def splitC (c : UInt8) : List UInt8 → List (List UInt8)
  | [] => [[]]
  | x :: xs => if x = c then [] :: splitC c xs else match splitC c xs with
    | [] => [[x]]
    | h :: t => (x :: h) :: t
def brkC (c : UInt8) : List UInt8 → List UInt8 × List UInt8 × Bool
  | [] => ([], [], false)
  | x :: xs => if x = c then ([], xs, true) else (x :: (brkC c xs).1, (brkC c xs).2)
theorem splitC_ne (c : UInt8) (s : List UInt8) : splitC c s ≠ [] := by
  cases s with
  | nil => simp [splitC]
  | cons x xs =>
    unfold splitC
    split
    · simp
    · split <;> simp
theorem splitC_brk (c : UInt8) : ∀ s : List UInt8, splitC c s = if (brkC c s).2.2 = true then (brkC c s).1 :: splitC c (brkC c s).2.1 else [s]
  | [] => rfl
  | x :: xs => by
    by_cases h : x = c
    · simp [splitC, brkC, h]
    · have ih := splitC_brk c xs
      simp only [splitC, brkC, if_neg h]
      by_cases h2 : (brkC c xs).2.2 = true
      · rw [if_pos h2] at ih ⊢
        rw [ih]
      · rw [if_neg h2] at ih ⊢
        rw [ih]
theorem brkC_len (c : UInt8) : ∀ s : List UInt8, (brkC c s).1.length ≤ s.length ∧ (brkC c s).2.1.length ≤ s.length ∧ ((brkC c s).2.2 = true → (brkC c s).1.length + 1 + (brkC c s).2.1.length = s.length)
  | [] => by simp [brkC]
  | x :: xs => by
    have ih := brkC_len c xs
    unfold brkC
    split
    · simp; omega
    · simp only [List.length_cons]
      refine ⟨by omega, by omega, fun h => ?_⟩
      have := ih.2.2 h
      omega
theorem splitC_len (c : UInt8) : ∀ s : List UInt8, (splitC c s).length ≤ s.length + 1 ∧ ∀ x ∈ splitC c s, x.length ≤ s.length
  | [] => by simp [splitC]
  | x :: xs => by
    have ih := splitC_len c xs
    unfold splitC
    split
    · refine ⟨by simp; omega, fun y hy => ?_⟩
      rcases List.mem_cons.1 hy with rfl | hy
      · simp
      · have := ih.2 y hy; simp; omega
    · split
      · simp
      · rename_i h t e
        rw [e] at ih
        refine ⟨by simp at ih ⊢; omega, fun y hy => ?_⟩
        rcases List.mem_cons.1 hy with rfl | hy
        · have := ih.2 h (by simp); simp; omega
        · have := ih.2 y (by simp [hy]); simp; omega
theorem index_cons_eq (c : UInt8) (l : List UInt8) : Lib.index (c :: l) [c] = 0 := by rw [Lib.index]; simp [List.isPrefixOf]
theorem index_cons_ne (b c : UInt8) (l : List UInt8) (h : b ≠ c) : Lib.index (b :: l) [c] = if Lib.index l [c] == -1 then -1 else Lib.index l [c] + 1 := by
  have hp : ([c] : List UInt8).isPrefixOf (b :: l) = false := by simp [List.isPrefixOf, Ne.symm h]
  rw [Lib.index, hp]; simp
theorem cut_brk (c : UInt8) : ∀ s : List UInt8, Lib.cut s [c] = brkC c s
  | [] => by simp [Lib.cut, Lib.index, brkC]
  | b :: l => by
    have ih := cut_brk c l
    have hge := Lib.index_ge l [c]
    by_cases h : b = c
    · subst h
      unfold Lib.cut brkC
      rw [index_cons_eq, if_pos (by decide), if_pos rfl]
      rfl
    · unfold brkC
      rw [if_neg h, ← ih]
      unfold Lib.cut
      rw [index_cons_ne b c l h]
      by_cases hm : Lib.index l [c] = -1
      · rw [hm]; rfl
      · obtain ⟨j, hj⟩ : ∃ j : Nat, Lib.index l [c] = j := ⟨(Lib.index l [c]).toNat, by omega⟩
        have e0 : (if (Lib.index l [c] == -1) = true then (-1 : Int) else Lib.index l [c] + 1) = (j : Int) + 1 := by rw [if_neg (by simpa using hm), hj]
        rw [e0, hj, if_pos (by omega), if_pos (by omega)]
        have e1 : ((j : Int) + 1).toNat = j + 1 := by omega
        have e2 : (j : Int).toNat = j := by omega
        rw [e1, e2]
        simp [Nat.add_assoc]
theorem splitK_C (c : UInt8) : ∀ s : List UInt8, Lib.splitK [c] 0 (Lib.count s [c]) s = splitC c s
  | [] => by rw [Lib.count_one]; rfl
  | b :: l => by
    have ih := splitK_C c l
    have hge := Lib.index_ge l [c]
    by_cases h : b = c
    · subst h
      rw [Lib.count_cons_eq, Nat.add_comm, Lib.splitK, index_cons_eq]
      simp only [splitC, if_pos]
      have e : ((0 : Int) == -1) = false := by decide
      rw [e]
      simpa using ih
    · rw [Lib.count_cons_ne b c l h]
      unfold splitC
      rw [if_neg h, ← ih]
      by_cases hm : Lib.index l [c] = -1
      · rw [Lib.count_miss hm]
        rfl
      · obtain ⟨j, hj⟩ : ∃ j : Nat, Lib.index l [c] = j := ⟨(Lib.index l [c]).toNat, by omega⟩
        rw [Lib.count_hit (by simp) hj, Nat.add_comm, Lib.splitK, Lib.splitK, index_cons_ne b c l h, hj]
        have e1 : ((j : Int) == -1) = false := beq_eq_false_iff_ne.2 (by omega)
        have e2 : (((j : Int) + 1) == -1) = false := beq_eq_false_iff_ne.2 (by omega)
        have e3 : ((j : Int) + 1).toNat = j + 1 := by omega
        have e4 : (j : Int).toNat = j := by omega
        rw [e1]
        simp only [Bool.false_eq_true, if_false]
        rw [e2]
        simp only [Bool.false_eq_true, if_false, e3, e4, Nat.add_zero]
        simp [Nat.add_assoc, Nat.add_comm 1 1]
end Pv
end Go.Proofs.YtdcgnfkkklbckaaGreatDoor
/- LAW 13, PLAIN: conditions as text, and read back. No program in sight. -/
set_option linter.unusedSimpArgs false
set_option linter.unusedVariables false
namespace Go.Proofs.YtdcgnfkkklbckaaGreatDoor
namespace Pv
theorem splitC_clean {c : UInt8} : ∀ {a : List UInt8}, (∀ x ∈ a, x ≠ c) → splitC c a = [a]
  | [], _ => rfl
  | x :: xs, h => by
    have ih := splitC_clean (c := c) (a := xs) (fun y hy => h y (by simp [hy]))
    simp only [splitC, if_neg (h x (by simp)), ih]
theorem splitC_cut {c : UInt8} {r : List UInt8} : ∀ {a : List UInt8}, (∀ x ∈ a, x ≠ c) → splitC c (a ++ c :: r) = a :: splitC c r
  | [], _ => by simp [splitC]
  | x :: xs, h => by
    have ih := splitC_cut (c := c) (r := r) (a := xs) (fun y hy => h y (by simp [hy]))
    simp only [List.cons_append, splitC, if_neg (h x (by simp)), ih]
/-! ### numerals -/
theorem dig_nat {d : Nat} (h : d < 10) : (UInt8.ofNat (48 + d)).toNat = 48 + d := by
  rw [UInt8.toNat_ofNat']; omega
theorem decDigits_small {u : Nat} (h : u < 10) : Lib.decDigits u = [UInt8.ofNat (48 + u)] := by rw [Lib.decDigits, dif_pos h]
theorem decDigits_big {u : Nat} (h : ¬ u < 10) : Lib.decDigits u = Lib.decDigits (u / 10) ++ [UInt8.ofNat (48 + u % 10)] := by rw [Lib.decDigits, dif_neg h]
theorem decDigits_dig (u : Nat) : ∀ x ∈ Lib.decDigits u, 48 ≤ x.toNat ∧ x.toNat ≤ 57 := by
  induction u using Nat.strongRecOn with
  | ind u ih =>
    intro x hx
    by_cases h : u < 10
    · rw [decDigits_small h, List.mem_singleton] at hx
      rw [hx, dig_nat h]; omega
    · rw [decDigits_big h, List.mem_append, List.mem_singleton] at hx
      rcases hx with hx | hx
      · exact ih (u / 10) (by omega) x hx
      · rw [hx, dig_nat (by omega)]; omega
theorem digs_snoc : ∀ {s : List UInt8} {a : Int} {d : Nat}, d < 10 → digs a (s ++ [UInt8.ofNat (48 + d)]) = (digs a s).map fun b => 10 * b + (d : Int)
  | [], a, d, h => by
    simp only [List.nil_append, digs, dig_nat h, Option.map_some]
    rw [if_neg (by omega)]
    congr 1
    omega
  | c :: cs, a, d, h => by
    simp only [List.cons_append, digs]
    split
    · rfl
    · exact digs_snoc h
theorem digs_decD (u : Nat) : digs 0 (Lib.decDigits u) = some (u : Int) := by
  induction u using Nat.strongRecOn with
  | ind u ih =>
    by_cases h : u < 10
    · rw [decDigits_small h]
      have := digs_snoc (s := []) (a := 0) h
      rw [List.nil_append] at this
      rw [this]
      simp [digs]
    · rw [decDigits_big h, digs_snoc (by omega), ih (u / 10) (by omega)]
      simp only [Option.map_some]
      congr 1
      omega
theorem decDigits_len {k : Nat} : ∀ {u : Nat}, 1 ≤ k → u < 10 ^ k → (Lib.decDigits u).length ≤ k := by
  induction k with
  | zero => intro u h; omega
  | succ k ih =>
    intro u _ hu
    by_cases h : u < 10
    · rw [decDigits_small h]; simp
    · rw [decDigits_big h, List.length_append]
      have hk : 1 ≤ k := by
        rcases k with _ | k
        · simp at hu; omega
        · omega
      have h2 : u / 10 < 10 ^ k := by
        rw [Nat.div_lt_iff_lt_mul (by decide), ← Nat.pow_succ]; exact hu
      have := ih hk h2
      simp only [List.length_cons, List.length_nil]; omega
theorem decDigits_ne (u : Nat) : 1 ≤ (Lib.decDigits u).length := by
  by_cases h : u < 10
  · rw [decDigits_small h]; simp
  · rw [decDigits_big h]; simp
theorem decDigits_head (u : Nat) (h1 : 1 ≤ u) : ((Lib.decDigits u).getD 0 0).toNat ≠ 48 := by
  induction u using Nat.strongRecOn with
  | ind u ih =>
    by_cases h : u < 10
    · rw [decDigits_small h]
      show (UInt8.ofNat (48 + u)).toNat ≠ 48
      rw [dig_nat h]; omega
    · have h2 := ih (u / 10) (by omega) (by omega)
      have h3 := decDigits_ne (u / 10)
      rw [decDigits_big h, List.getD_eq_getElem?_getD, List.getElem?_append_left (by omega), ← List.getD_eq_getElem?_getD]
      exact h2
theorem itoa_clean {n : Int} (h0 : 0 ≤ n) : ∀ x ∈ Lib.itoa n, x ≠ 32 ∧ x ≠ 10 := fun x hx => by
  have he : Lib.itoa n = Lib.decDigits n.toNat := by unfold Lib.itoa; rw [if_neg (by omega)]
  rw [he] at hx
  have := decDigits_dig _ x hx
  refine ⟨fun e => ?_, fun e => ?_⟩ <;> (subst e; revert this; decide)
theorem itoa_num {n : Int} (h0 : 0 ≤ n) : ∀ x ∈ Lib.itoa n, 48 ≤ x.toNat ∧ x.toNat ≤ 57 := fun x hx => by
  have he : Lib.itoa n = Lib.decDigits n.toNat := by unfold Lib.itoa; rw [if_neg (by omega)]
  rw [he] at hx
  exact decDigits_dig _ x hx
theorem itoa_word {n : Int} (h0 : 0 ≤ n) {x : UInt8} {r : List UInt8} (hx : 57 < x.toNat) : Lib.itoa n ≠ x :: r := fun e => by
  have := itoa_num h0 x (by rw [e]; simp)
  omega
theorem numF_itoa {n : Int} (h0 : 0 ≤ n) (h1 : n ≤ 1073741824) : numF (Lib.itoa n) = some n := by
  have he : Lib.itoa n = Lib.decDigits n.toNat := by unfold Lib.itoa; rw [if_neg (by omega)]
  have hl := decDigits_len (k := 10) (u := n.toNat) (by decide) (by
    have : n.toNat ≤ 1073741824 := by omega
    exact Nat.lt_of_le_of_lt this (by decide))
  have hn := decDigits_ne n.toNat
  rw [he]
  unfold numF
  rw [if_neg (by omega), digs_decD]
  congr 1; omega
def wRank : List UInt8 := [114, 97, 110, 107]
def wLeast : List UInt8 := [108, 101, 97, 115, 116]
def wMost : List UInt8 := [109, 111, 115, 116]
def wUp : List UInt8 := [117, 112]
def wDown : List UInt8 := [100, 111, 119, 110]
def wDays : List UInt8 := [100, 97, 121, 115]
def wAbove : List UInt8 := [97, 98, 111, 118, 101]
def wBelow : List UInt8 := [98, 101, 108, 111, 119]
def kindW (k : Int) : List UInt8 := if k = 1 then wLeast else if k = 2 then wMost else if k = 3 then wUp else if k = 4 then wDown else []
def kindOf (w : List UInt8) : Int := if w = wLeast then 1 else if w = wMost then 2 else if w = wUp then 3 else if w = wDown then 4 else 0
def badC (c : Cd) : Prop := ¬ (0 ≤ c.v ∧ c.v ≤ 1073741824) ∨ ¬ ((0 ≤ c.f ∧ c.f ≤ 364) ∧ 0 ≤ c.u ∧ c.u ≤ 364) ∨ ¬ (0 ≤ c.a ∧ c.a ≤ 16777216) ∨ ¬ (0 ≤ c.b ∧ c.b ≤ 16777216) ∨ c.b < c.a
instance (c : Cd) : Decidable (badC c) := by unfold badC; infer_instance
def oneC (c : Cd) : Int := if c.r < 1 ∨ 9 < c.r then 1 else if c.k < 1 ∨ 4 < c.k then 5 else if badC c then 1 else 0
theorem oneC_ok {c : Cd} (h : oneC c = 0) : (1 ≤ c.r ∧ c.r ≤ 9) ∧ (1 ≤ c.k ∧ c.k ≤ 4) ∧ ¬ badC c := by
  unfold oneC at h
  split at h
  · cases h
  split at h
  · cases h
  split at h
  · cases h
  · exact ⟨by omega, by omega, by assumption⟩
def partsO : Cd → Bool → Bool → Bool → List (List UInt8) → Option Cd
  | c, _, _, _, [] => some c
  | _, _, _, _, [_] => none
  | c, d, a, b, w :: x :: r =>
    if w = wDays then if d = true then none else match r with
      | [] => none
      | y :: r' => match numF x, numF y with
        | some m, some n => partsO { c with f := m, u := n } true a b r'
        | _, _ => none
    else if w = wAbove then if a = true then none else match numF x with
      | some m => partsO { c with a := m } d true b r
      | none => none
    else if w = wBelow then if b = true then none else match numF x with
      | some m => partsO { c with b := m } d a true r
      | none => none
    else none
def condO : List (List UInt8) → Option Cd
  | rk :: x :: kd :: y :: r => if rk = wRank then match numF x, numF y with
      | some m, some n => if kindOf kd = 0 then none else partsO ⟨m, kindOf kd, n, 0, 364, 0, 16777216⟩ false false false r
      | _, _ => none
    else none
  | _ => none
def daysW (c : Cd) : List (List UInt8) := if c.f = 0 ∧ c.u = 364 then [] else [wDays, Lib.itoa c.f, Lib.itoa c.u]
def aboveW (c : Cd) : List (List UInt8) := if c.a = 0 then [] else [wAbove, Lib.itoa c.a]
def belowW (c : Cd) : List (List UInt8) := if c.b = 16777216 then [] else [wBelow, Lib.itoa c.b]
def wordsOf (c : Cd) : List (List UInt8) := [wRank, Lib.itoa c.r, kindW c.k, Lib.itoa c.v] ++ (daysW c ++ (aboveW c ++ belowW c))
theorem kind_back {k : Int} (h : 1 ≤ k ∧ k ≤ 4) : kindOf (kindW k) = k := by
  have : k = 1 ∨ k = 2 ∨ k = 3 ∨ k = 4 := by omega
  rcases this with rfl | rfl | rfl | rfl <;> decide
theorem below_back (c : Cd) (d a : Bool) (h : 0 ≤ c.b ∧ c.b ≤ 16777216) (e : Cd) (he : { e with b := c.b } = c) (h0 : c.b = 16777216 → e = c) : partsO e d a false (belowW c) = some c := by
  unfold belowW
  split
  · rename_i hb
    unfold partsO
    rw [h0 hb]
  · unfold partsO
    rw [if_neg (by decide), if_neg (by decide), if_pos rfl, if_neg (by decide), numF_itoa h.1 (by omega)]
    dsimp only
    rw [he]
    unfold partsO
    rfl
theorem above_back (c : Cd) (d : Bool) (h : 0 ≤ c.a ∧ c.a ≤ 16777216) (hb : 0 ≤ c.b ∧ c.b ≤ 16777216) (e : Cd) (he : { e with a := c.a, b := c.b } = c) (h0 : e.a = 0) (h1 : e.b = 16777216) : partsO e d false false (aboveW c ++ belowW c) = some c := by
  unfold aboveW
  split
  · rename_i ha
    rw [List.nil_append]
    refine below_back c d false hb e ?_ fun h2 => ?_
    · rw [← he]; cases e; dsimp only at h0 he ⊢; subst h0; congr
      rw [← ha]
    · rw [← he]; cases e; dsimp only at h0 h1 ⊢; subst h0; subst h1; rw [ha, h2]
  · show partsO e d false false (wAbove :: Lib.itoa c.a :: belowW c) = _
    unfold partsO
    rw [if_neg (by decide), if_pos rfl, if_neg (by decide), numF_itoa h.1 (by omega)]
    dsimp only
    refine below_back c d true hb _ ?_ fun h2 => ?_
    · rw [← he]
    · rw [← he]; cases e; dsimp only at h1 ⊢; subst h1; rw [h2]
theorem cond_back {c : Cd} (h : oneC c = 0) : condO (wordsOf c) = some c := by
  obtain ⟨h1, h2, h3⟩ := oneC_ok h
  unfold badC at h3
  have hk := kind_back h2
  show condO (wRank :: Lib.itoa c.r :: kindW c.k :: Lib.itoa c.v :: (daysW c ++ (aboveW c ++ belowW c))) = _
  unfold condO
  dsimp only
  rw [if_pos rfl, numF_itoa (by omega) (by omega), numF_itoa (by omega) (by omega)]
  dsimp only
  rw [hk, if_neg (by omega)]
  unfold daysW
  split
  · rename_i hd
    rw [List.nil_append]
    refine above_back c false (by omega) (by omega) _ ?_ rfl rfl
    rw [← hd.1, ← hd.2]
  · show partsO _ false false false (wDays :: Lib.itoa c.f :: Lib.itoa c.u :: (aboveW c ++ belowW c)) = _
    unfold partsO
    rw [if_pos rfl, if_neg (by decide)]
    dsimp only
    rw [numF_itoa (by omega) (by omega), numF_itoa (by omega) (by omega)]
    dsimp only
    exact above_back c true (by omega) (by omega) _ rfl rfl rfl
end Pv
end Go.Proofs.YtdcgnfkkklbckaaGreatDoor
/- LAW 13, THE WALKS: the first error of a condition, of conditions. -/
set_option linter.unusedSimpArgs false
set_option linter.unusedVariables false
namespace Go.Proofs.YtdcgnfkkklbckaaGreatDoor
namespace Pv
def c56 : C := (.seq (.reg [⟨(some 4), 64, none, .mv (.c (.bool false))⟩])
  (.seq (.reg [⟨(some 5), 80, none, .mv (.t 0)⟩,
    ⟨(some 6), 96, none, .bi false .geq (.t 5) (.c (.int .i64 0))⟩,
    ⟨(some 7), 112, none, .mv (.t 6)⟩,
    ⟨(some 8), 128, (some (7, true)), .mv (.t 0)⟩,
    ⟨(some 9), 144, (some (7, true)), .mv (.t 1)⟩,
    ⟨(some 10), 160, (some (7, true)), .bi false .leq (.t 8) (.t 9)⟩,
    ⟨(some 11), 176, none, .pick (.t 7) (.t 10) (.c (.bool false))⟩,
    ⟨(some 4), 64, none, .mv (.t 11)⟩])
  .ret))
theorem fits56 : fits Tryz.prog false Tryz.f56 2 12 [(4, none)] = some c56.er := by kernel_rfl
def c139 : C := (.seq (.reg [⟨(some 2), 32, none, .mv (.c (.bool false))⟩])
  (.seq (.reg [⟨(some 3), 48, none, .mv (.t 0)⟩,
    ⟨(some 4), 64, none, .call (.c (.fn (.func 56) [] [])) [(.t 3), (.c (.int .i64 364))]⟩,
    ⟨(some 2), 32, none, .mv (.t 4)⟩])
  .ret))
theorem fits139 : fits Tryz.prog false Tryz.f139 1 5 [(2, none)] = some c139.er := by kernel_rfl
def c137 : C := (.seq (.reg [⟨(some 1), 16, none, .bx 2 (.t 0)⟩,
    ⟨(some 2), 32, none, .mv (.c (.bool false))⟩])
  (.seq (.reg [⟨(some 3), 48, none, .fa 0 (.t 1)⟩,
    ⟨(some 4), 64, none, .ld 1 false (.t 3)⟩,
    ⟨(some 5), 80, none, .call (.c (.fn (.func 139) [] [])) [(.t 4)]⟩,
    ⟨(some 6), 96, none, .mv (.t 5)⟩,
    ⟨(some 7), 112, (some (6, true)), .fa 1 (.t 1)⟩,
    ⟨(some 8), 128, (some (6, true)), .ld 1 false (.t 7)⟩,
    ⟨(some 9), 144, (some (6, true)), .call (.c (.fn (.func 139) [] [])) [(.t 8)]⟩,
    ⟨(some 10), 160, none, .pick (.t 6) (.t 9) (.c (.bool false))⟩,
    ⟨(some 2), 32, none, .mv (.t 10)⟩])
  .ret))
theorem fits137 : fits Tryz.prog false Tryz.f137 1 11 [(2, none)] = some c137.er := by kernel_rfl
def c136 : C := (.seq (.reg [⟨(some 2), 32, none, .mv (.c (.bool false))⟩])
  (.seq (.reg [⟨(some 3), 48, none, .mv (.t 0)⟩,
    ⟨(some 4), 64, none, .call (.c (.fn (.func 56) [] [])) [(.t 3), (.c (.int .i64 16777216))]⟩,
    ⟨(some 2), 32, none, .mv (.t 4)⟩])
  .ret))
theorem fits136 : fits Tryz.prog false Tryz.f136 1 5 [(2, none)] = some c136.er := by kernel_rfl
def c70 : C := (.seq (.reg [⟨(some 1), 16, none, .bx 7 (.t 0)⟩,
    ⟨(some 2), 32, none, .mv (.c (.int .i64 0))⟩])
  (.seq (.reg [⟨(some 3), 48, none, .mv (.c (.fn (.func 136) [] []))⟩])
  (.seq (.block 0 (.seq (.reg [⟨(some 5), 80, none, .fa 0 (.t 1)⟩,
    ⟨(some 6), 96, none, .ld 1 false (.t 5)⟩,
    ⟨(some 7), 112, none, .bi false .lss (.t 6) (.c (.int .i64 1))⟩,
    ⟨(some 8), 128, none, .mv (.t 7)⟩,
    ⟨(some 9), 144, (some (8, false)), .fa 0 (.t 1)⟩,
    ⟨(some 10), 160, (some (8, false)), .ld 1 false (.t 9)⟩,
    ⟨(some 11), 176, (some (8, false)), .bi false .gtr (.t 10) (.c (.int .i64 9))⟩,
    ⟨(some 12), 192, none, .pick (.t 8) (.c (.bool true)) (.t 11)⟩,
    ⟨(some 4), 64, none, .mv (.t 12)⟩])
  (.cond (.t 4) (.seq (.reg [⟨(some 2), 32, none, .mv (.c (.int .i64 1))⟩])
  .ret) (.seq (.reg [⟨(some 14), 224, none, .fa 1 (.t 1)⟩,
    ⟨(some 15), 240, none, .ld 1 false (.t 14)⟩,
    ⟨(some 16), 256, none, .bi false .lss (.t 15) (.c (.int .i64 1))⟩,
    ⟨(some 17), 272, none, .mv (.t 16)⟩,
    ⟨(some 18), 288, (some (17, false)), .fa 1 (.t 1)⟩,
    ⟨(some 19), 304, (some (17, false)), .ld 1 false (.t 18)⟩,
    ⟨(some 20), 320, (some (17, false)), .bi false .gtr (.t 19) (.c (.int .i64 4))⟩,
    ⟨(some 21), 336, none, .pick (.t 17) (.c (.bool true)) (.t 20)⟩,
    ⟨(some 13), 208, none, .mv (.t 21)⟩])
  (.cond (.t 13) (.seq (.reg [⟨(some 2), 32, none, .mv (.c (.int .i64 5))⟩])
  .ret) (.seq (.reg [⟨(some 23), 368, none, .fa 2 (.t 1)⟩,
    ⟨(some 24), 384, none, .ld 1 false (.t 23)⟩,
    ⟨(some 25), 400, none, .call (.c (.fn (.func 56) [] [])) [(.t 24), (.c (.int .i64 1073741824))]⟩,
    ⟨(some 26), 416, none, .un false .not (.t 25)⟩,
    ⟨(some 27), 432, none, .mv (.t 26)⟩,
    ⟨(some 28), 448, (some (27, false)), .fa 3 (.t 1)⟩,
    ⟨(some 29), 464, (some (27, false)), .ld 2 true (.t 28)⟩,
    ⟨(some 30), 480, (some (27, false)), .call (.c (.fn (.func 137) [] [])) [(.t 29)]⟩,
    ⟨(some 31), 496, (some (27, false)), .un false .not (.t 30)⟩,
    ⟨(some 32), 512, none, .pick (.t 27) (.c (.bool true)) (.t 31)⟩,
    ⟨(some 33), 528, none, .mv (.t 32)⟩,
    ⟨(some 34), 544, (some (33, false)), .mv (.t 3)⟩,
    ⟨(some 35), 560, (some (33, false)), .fa 5 (.t 1)⟩,
    ⟨(some 36), 576, (some (33, false)), .ld 1 false (.t 35)⟩,
    ⟨(some 37), 592, (some (33, false)), .call (.t 34) [(.t 36)]⟩,
    ⟨(some 38), 608, (some (33, false)), .un false .not (.t 37)⟩,
    ⟨(some 39), 624, none, .pick (.t 33) (.c (.bool true)) (.t 38)⟩,
    ⟨(some 40), 640, none, .mv (.t 39)⟩,
    ⟨(some 41), 656, (some (40, false)), .mv (.t 3)⟩,
    ⟨(some 42), 672, (some (40, false)), .fa 6 (.t 1)⟩,
    ⟨(some 43), 688, (some (40, false)), .ld 1 false (.t 42)⟩,
    ⟨(some 44), 704, (some (40, false)), .call (.t 41) [(.t 43)]⟩,
    ⟨(some 45), 720, (some (40, false)), .un false .not (.t 44)⟩,
    ⟨(some 46), 736, none, .pick (.t 40) (.c (.bool true)) (.t 45)⟩,
    ⟨(some 47), 752, none, .mv (.t 46)⟩,
    ⟨(some 48), 768, (some (47, false)), .fa 5 (.t 1)⟩,
    ⟨(some 49), 784, (some (47, false)), .ld 1 false (.t 48)⟩,
    ⟨(some 50), 800, (some (47, false)), .fa 6 (.t 1)⟩,
    ⟨(some 51), 816, (some (47, false)), .ld 1 false (.t 50)⟩,
    ⟨(some 52), 832, (some (47, false)), .bi false .gtr (.t 49) (.t 51)⟩,
    ⟨(some 53), 848, none, .pick (.t 47) (.c (.bool true)) (.t 52)⟩,
    ⟨(some 22), 352, none, .mv (.t 53)⟩])
  (.cond (.t 22) (.seq (.reg [⟨(some 2), 32, none, .mv (.c (.int .i64 1))⟩])
  .ret) .skip)))))))
  (.seq (.reg [⟨(some 2), 32, none, .mv (.c (.int .i64 0))⟩])
  .ret))))
theorem fits70 : fits Tryz.prog false Tryz.f70 1 54 [(2, none)] = some c70.er := by kernel_rfl
def c62L1 : C := (.seq (.reg [⟨(some 12), 192, none, .bi false .lss (.t 11) (.t 10)⟩])
  (.seq (.cond (.t 12) .skip (.exit 0))
  (.seq (.block 1 (.seq (.reg [⟨(some 13), 208, none, .ia 7 (.t 9) (.t 11)⟩,
    ⟨(some 14), 224, none, .ld 7 true (.t 13)⟩,
    ⟨(some 4), 64, none, .al [(.int .i64 0), (.int .i64 0), (.int .i64 0), (.int .i64 0), (.int .i64 0), (.int .i64 0), (.int .i64 0)]⟩,
    ⟨none, 0, none, .st 7 (.t 4) (.t 14)⟩])
  (.seq (.reg [⟨(some 15), 240, none, .ld 7 true (.t 4)⟩,
    ⟨(some 16), 256, none, .call (.c (.fn (.func 70) [] [])) [(.t 15)]⟩,
    ⟨(some 5), 80, none, .mv (.t 16)⟩])
  (.seq (.reg [⟨(some 17), 272, none, .mv (.t 5)⟩,
    ⟨(some 18), 288, none, .bi false .neq (.t 17) (.c (.int .i64 0))⟩])
  (.cond (.t 18) (.seq (.reg [⟨(some 19), 304, none, .mv (.t 5)⟩,
    ⟨(some 2), 32, none, .mv (.t 19)⟩])
  .ret) .skip)))))
  (.reg [⟨(some 20), 320, none, .bi false .add (.t 11) (.c (.int .i64 1))⟩,
    ⟨(some 11), 176, none, .mv (.t 20)⟩]))))
def c62 : C := (.seq (.reg [⟨(some 2), 32, none, .mv (.c (.int .i64 0))⟩])
  (.seq (.seq (.reg [⟨(some 6), 96, none, .mv (.t 0)⟩,
    ⟨(some 7), 112, none, .len (.t 6)⟩,
    ⟨(some 8), 128, none, .bi false .gtr (.t 7) (.c (.int .i64 200))⟩])
  (.cond (.t 8) (.seq (.reg [⟨(some 2), 32, none, .mv (.c (.int .i64 10))⟩])
  .ret) .skip))
  (.seq (.seq (.reg [⟨(some 9), 144, none, .mv (.t 0)⟩,
    ⟨(some 10), 160, none, .len (.t 9)⟩,
    ⟨(some 11), 176, none, .mv (.c (.int .i64 0))⟩])
  (.block 0 (.loop c62L1)))
  (.seq (.reg [⟨(some 2), 32, none, .mv (.c (.int .i64 0))⟩])
  .ret))))
theorem fits62 : fits Tryz.prog false Tryz.f62 1 21 [(2, none)] = some c62.er := by kernel_rfl
def wi (n m : Int) : Bool := decide (0 ≤ n) && decide (n ≤ m)
theorem call56 (n m : Int) : PureCall Tryz.prog 56 [.int .i64 n, .int .i64 m] [] ⟨.bool (wi n m), [], []⟩ := by
  refine pure_call mix Tryz.func56 fits56 rfl ?_
  conv => whnf
  refine ⟨?_, [], ?_⟩
  · exact g0
  conv => whnf
  refine ⟨rfl, ?_, trivial, trivial⟩
  show PLe _ _ _ _
  conv => whnf
  unfold wi
  cases decide (0 ≤ n) <;> rfl
theorem call139 (n : Int) : PureCall Tryz.prog 139 [.int .i64 n] [] ⟨.bool (wi n 364), [], []⟩ := by
  refine pure_call mix Tryz.func139 fits139 rfl ?_
  conv => whnf
  refine ⟨_, fun _ => call56 n 364, ?_⟩
  conv => whnf
  exact ret
theorem call137 (f u : Int) : PureCall Tryz.prog 137 [.agg [.int .i64 f, .int .i64 u]] [] ⟨.bool (wi f 364 && wi u 364), [], []⟩ := by
  refine pure_call mix Tryz.func137 fits137 rfl ?_
  conv => whnf
  refine ⟨_, fun _ => call139 f, ?_⟩
  conv => whnf
  refine ⟨_, fun _ => call139 u, ?_⟩
  conv => whnf
  refine ⟨?_, [], ?_⟩
  · exact g0
  conv => whnf
  refine ⟨rfl, ?_, trivial, trivial⟩
  show PLe _ _ _ _
  conv => whnf
  cases wi f 364 <;> rfl
theorem call136 (n : Int) : PureCall Tryz.prog 136 [.int .i64 n] [] ⟨.bool (wi n 16777216), [], []⟩ := by
  refine pure_call mix Tryz.func136 fits136 rfl ?_
  conv => whnf
  refine ⟨_, fun _ => call56 n 16777216, ?_⟩
  conv => whnf
  exact ret
theorem wi_iff (n m : Int) : wi n m = true ↔ 0 ≤ n ∧ n ≤ m := by simp [wi]
theorem bad_test (c : Cd) : (bif bif bif bif !wi c.v 1073741824 then true else !(wi c.f 364 && wi c.u 364) then true else !wi c.a 16777216 then true else !wi c.b 16777216 then true else decide (c.b < c.a)) = decide (badC c) := by
  have h1 := wi_iff c.v 1073741824
  have h2 := wi_iff c.f 364
  have h3 := wi_iff c.u 364
  have h4 := wi_iff c.a 16777216
  have h5 := wi_iff c.b 16777216
  rw [Bool.eq_iff_iff, decide_eq_true_iff]
  unfold badC
  rw [← h1, ← h2, ← h3, ← h4, ← h5]
  cases wi c.v 1073741824 <;> cases wi c.f 364 <;> cases wi c.u 364 <;> cases wi c.a 16777216 <;> cases wi c.b 16777216 <;> simp
set_option maxRecDepth 100000 in
theorem call70 (c : Cd) : PureCall Tryz.prog 70 [.agg (eCd c)] [] ⟨.int .i64 (oneC c), [], []⟩ := by
  refine pure_call mix Tryz.func70 fits70 rfl ?_
  unfold oneC
  conv => whnf
  refine ⟨?_, fun hc => ?_, fun hc => ?_⟩
  · exact g0
  · simp only [bp] at hc
    rw [if_pos (by omega)]
    conv => whnf
    exact ret
  simp only [bp] at hc
  rw [if_neg (by omega)]
  conv => whnf
  refine ⟨?_, fun hc => ?_, fun hc => ?_⟩
  · exact g0
  · simp only [bp] at hc
    rw [if_pos (by omega)]
    conv => whnf
    exact ret
  simp only [bp] at hc
  rw [if_neg (by omega)]
  conv => whnf
  refine ⟨_, fun _ => call56 c.v 1073741824, ?_⟩
  conv => whnf
  refine ⟨_, fun _ => call137 c.f c.u, ?_⟩
  conv => whnf
  refine ⟨_, fun _ => call136 c.a, ?_⟩
  conv => whnf
  refine ⟨_, fun _ => call136 c.b, ?_⟩
  conv => whnf
  refine ⟨?_, fun hc => ?_, fun hc => ?_⟩
  · exact g0
  · have hb : badC c := of_decide_eq_true ((bad_test c).symm.trans hc)
    rw [if_pos hb]
    conv => whnf
    exact ret
  · have hb : ¬ badC c := of_decide_eq_false ((bad_test c).symm.trans hc)
    rw [if_neg hb]
    conv => whnf
    exact ret
def allC : List Cd → Int
  | [] => 0
  | c :: l => if oneC c ≠ 0 then oneC c else allC l
def limC (l : List Cd) : Int := if 200 < l.length then 10 else allC l
theorem allC_drop {l : List Cd} {i : Nat} (h : i < l.length) : allC (l.drop i) = if oneC (l.getD i default) ≠ 0 then oneC (l.getD i default) else allC (l.drop (i + 1)) := by
  rw [List.drop_eq_getElem_cons h]
  have : l.getD i default = l[i] := by simp [List.getD, h]
  rw [this]; rfl
set_option maxRecDepth 100000 in
theorem call62 (τ : Nat) (l : List Cd) : PureCall Tryz.prog 62 [.sl τ 7 l.length (fl eCd l)] [] ⟨.int .i64 (limC l), [], []⟩ := by
  refine pure_call mix Tryz.func62 fits62 rfl ?_
  unfold limC
  conv => whnf
  refine ⟨?_, fun hc => ?_, fun hc => ?_⟩
  · exact g0
  · simp only [bp] at hc
    rw [if_pos (by omega)]
    conv => whnf
    exact ret
  simp only [bp] at hc
  rw [if_neg (by omega)]
  conv => whnf
  refine ⟨trivial, ?_⟩
  refine LSem.loop (n := 21) mix (α := Nat) (fun i => i ≤ l.length ∧ allC (l.drop i) = allC l)
    (fun i => [(9, .sl τ 7 l.length (fl eCd l)), (10, .int .i64 l.length), (11, .int .i64 i)])
    (fun i => []) (fun i => l.length - i) 0 ?_ ?_ ?_
  · exact ⟨Nat.zero_le _, rfl⟩
  · refine ⟨rfl, rfl, ?_, ?_⟩ <;> exact ent
  · rintro i ⟨hi, hp⟩
    have hj : ((i : Int)).toNat = i := by omega
    conv => whnf
    refine ⟨trivial, fun hc => ?_, fun hc => ?_⟩
    · replace hc := of_decide_eq_true hc
      have hlt : i < l.length := by
        have h : (i : Int) < l.length := hc
        omega
      rw [allC_drop hlt] at hp
      conv => whnf
      rw [hj]
      refine ⟨_, fun _ => call70 (l.getD i default), ?_⟩
      generalize oneC (l.getD i default) = e at hp ⊢
      conv => whnf
      refine ⟨?_, fun h => ?_, fun h => ?_⟩
      · exact g0
      · simp only [bp] at h
        rw [if_pos h] at hp
        rw [← hp]
        conv => whnf
        exact ret
      · simp only [bp] at h
        rw [if_neg (by omega)] at hp
        conv => whnf
        refine ⟨?_, i + 1, ⟨hlt, hp⟩, by omega, rfl, rfl, ?_, ?_⟩
        · exact g0
        · exact ent
        · exact ent
    · replace hc := of_decide_eq_false hc
      have hk : i = l.length := by
        have h : ¬ (i : Int) < l.length := hc
        omega
      subst hk
      rw [List.drop_length] at hp
      rw [← show (0 : Int) = allC l from hp]
      conv => whnf
      exact ret
end Pv
end Go.Proofs.YtdcgnfkkklbckaaGreatDoor
/- TOP, THE WALKS: the conditions that apply, by rank. -/
set_option linter.unusedSimpArgs false
set_option linter.unusedVariables false
namespace Go.Proofs.YtdcgnfkkklbckaaGreatDoor
namespace Pv
def c197 : C := (.seq (.reg [⟨(some 2), 32, none, .bx 2 (.t 0)⟩,
    ⟨(some 4), 64, none, .mv (.c (.bool false))⟩])
  (.seq (.seq (.reg [⟨(some 5), 80, none, .ld 2 true (.t 2)⟩,
    ⟨(some 6), 96, none, .call (.c (.fn (.func 137) [] [])) [(.t 5)]⟩,
    ⟨(some 7), 112, none, .un false .not (.t 6)⟩,
    ⟨(some 8), 128, none, .mv (.t 7)⟩,
    ⟨(some 9), 144, (some (8, false)), .mv (.t 1)⟩,
    ⟨(some 10), 160, (some (8, false)), .call (.c (.fn (.func 139) [] [])) [(.t 9)]⟩,
    ⟨(some 11), 176, (some (8, false)), .un false .not (.t 10)⟩,
    ⟨(some 12), 192, none, .pick (.t 8) (.c (.bool true)) (.t 11)⟩])
  (.cond (.t 12) (.seq (.reg [⟨(some 4), 64, none, .mv (.c (.bool false))⟩])
  .ret) .skip))
  (.seq (.seq (.reg [⟨(some 13), 208, none, .fa 0 (.t 2)⟩,
    ⟨(some 14), 224, none, .ld 1 false (.t 13)⟩,
    ⟨(some 15), 240, none, .fa 1 (.t 2)⟩,
    ⟨(some 16), 256, none, .ld 1 false (.t 15)⟩,
    ⟨(some 17), 272, none, .bi false .leq (.t 14) (.t 16)⟩])
  (.cond (.t 17) (.seq (.reg [⟨(some 18), 288, none, .fa 0 (.t 2)⟩,
    ⟨(some 19), 304, none, .ld 1 false (.t 18)⟩,
    ⟨(some 20), 320, none, .mv (.t 1)⟩,
    ⟨(some 21), 336, none, .bi false .leq (.t 19) (.t 20)⟩,
    ⟨(some 22), 352, none, .mv (.t 21)⟩,
    ⟨(some 23), 368, (some (22, true)), .mv (.t 1)⟩,
    ⟨(some 24), 384, (some (22, true)), .fa 1 (.t 2)⟩,
    ⟨(some 25), 400, (some (22, true)), .ld 1 false (.t 24)⟩,
    ⟨(some 26), 416, (some (22, true)), .bi false .leq (.t 23) (.t 25)⟩,
    ⟨(some 27), 432, none, .pick (.t 22) (.t 26) (.c (.bool false))⟩,
    ⟨(some 4), 64, none, .mv (.t 27)⟩])
  .ret) .skip))
  (.seq (.reg [⟨(some 28), 448, none, .mv (.t 1)⟩,
    ⟨(some 29), 464, none, .fa 0 (.t 2)⟩,
    ⟨(some 30), 480, none, .ld 1 false (.t 29)⟩,
    ⟨(some 31), 496, none, .bi false .geq (.t 28) (.t 30)⟩,
    ⟨(some 32), 512, none, .mv (.t 31)⟩,
    ⟨(some 33), 528, (some (32, false)), .mv (.t 1)⟩,
    ⟨(some 34), 544, (some (32, false)), .fa 1 (.t 2)⟩,
    ⟨(some 35), 560, (some (32, false)), .ld 1 false (.t 34)⟩,
    ⟨(some 36), 576, (some (32, false)), .bi false .leq (.t 33) (.t 35)⟩,
    ⟨(some 37), 592, none, .pick (.t 32) (.c (.bool true)) (.t 36)⟩,
    ⟨(some 4), 64, none, .mv (.t 37)⟩])
  .ret))))
theorem fits197 : fits Tryz.prog false Tryz.f197 2 38 [(4, none)] = some c197.er := by kernel_rfl
def c144 : C := (.seq (.reg [⟨(some 3), 48, none, .bx 7 (.t 0)⟩,
    ⟨(some 6), 96, none, .mv (.c (.bool false))⟩])
  (.seq (.reg [⟨(some 7), 112, none, .ld 7 true (.t 3)⟩,
    ⟨(some 8), 128, none, .call (.c (.fn (.func 70) [] [])) [(.t 7)]⟩,
    ⟨(some 9), 144, none, .bi false .eql (.t 8) (.c (.int .i64 0))⟩,
    ⟨(some 10), 160, none, .mv (.t 9)⟩,
    ⟨(some 11), 176, (some (10, true)), .fa 3 (.t 3)⟩,
    ⟨(some 12), 192, (some (10, true)), .ld 2 true (.t 11)⟩,
    ⟨(some 13), 208, (some (10, true)), .mv (.t 1)⟩,
    ⟨(some 14), 224, (some (10, true)), .call (.c (.fn (.func 197) [] [])) [(.t 12), (.t 13)]⟩,
    ⟨(some 15), 240, none, .pick (.t 10) (.t 14) (.c (.bool false))⟩,
    ⟨(some 16), 256, none, .mv (.t 15)⟩,
    ⟨(some 17), 272, (some (16, true)), .mv (.t 2)⟩,
    ⟨(some 18), 288, (some (16, true)), .fa 5 (.t 3)⟩,
    ⟨(some 19), 304, (some (16, true)), .ld 1 false (.t 18)⟩,
    ⟨(some 20), 320, (some (16, true)), .bi false .geq (.t 17) (.t 19)⟩,
    ⟨(some 21), 336, none, .pick (.t 16) (.t 20) (.c (.bool false))⟩,
    ⟨(some 22), 352, none, .mv (.t 21)⟩,
    ⟨(some 23), 368, (some (22, true)), .mv (.t 2)⟩,
    ⟨(some 24), 384, (some (22, true)), .fa 6 (.t 3)⟩,
    ⟨(some 25), 400, (some (22, true)), .ld 1 false (.t 24)⟩,
    ⟨(some 26), 416, (some (22, true)), .bi false .leq (.t 23) (.t 25)⟩,
    ⟨(some 27), 432, none, .pick (.t 22) (.t 26) (.c (.bool false))⟩,
    ⟨(some 6), 96, none, .mv (.t 27)⟩])
  .ret))
theorem fits144 : fits Tryz.prog false Tryz.f144 3 28 [(6, none)] = some c144.er := by kernel_rfl
def c143 : C := (.seq (.reg [⟨(some 5), 80, none, .mv (.c (.bool false))⟩])
  (.seq (.drw [⟨(some 6), 96, none, .ld 1 false (.t 1)⟩,
    ⟨(some 7), 112, none, .mv (.t 0)⟩,
    ⟨(some 8), 128, none, .ia 7 (.t 6) (.t 7)⟩,
    ⟨(some 9), 144, none, .ld 7 true (.t 8)⟩,
    ⟨(some 10), 160, none, .ld 1 false (.t 2)⟩,
    ⟨(some 11), 176, none, .ld 1 false (.t 3)⟩,
    ⟨(some 12), 192, none, .call (.c (.fn (.func 144) [] [])) [(.t 9), (.t 10), (.t 11)]⟩,
    ⟨(some 13), 208, none, .un false .not (.t 12)⟩,
    ⟨(some 5), 80, none, .mv (.t 13)⟩]
    [(0, 1, 6), (0, 4, 6), (0, 5, 6), (1, 4, 7), (1, 5, 7), (2, 4, 8), (2, 5, 8), (3, 4, 9), (3, 5, 9), (4, 5, 10)])
  .ret))
theorem fits143 : fits Tryz.prog false Tryz.f143 4 14 [(5, none)] = some c143.er := by kernel_rfl
def c142L1 : C := (.seq (.reg [⟨(some 8), 128, none, .bi false .lss (.t 7) (.t 6)⟩])
  (.seq (.cond (.t 8) .skip (.exit 0))
  (.seq (.block 1 (.seq (.reg [⟨(some 9), 144, none, .mv (.t 7)⟩,
    ⟨(some 4), 64, none, .mv (.t 9)⟩])
  (.reg [⟨(some 10), 160, none, .mv (.t 3)⟩,
    ⟨(some 11), 176, none, .mv (.t 4)⟩,
    ⟨(some 12), 192, none, .bs 3 1 [(.t 11)]⟩,
    ⟨(some 13), 208, none, .app 3 1 8 (.t 10) (.t 12)⟩,
    ⟨(some 3), 48, none, .mv (.t 13)⟩])))
  (.reg [⟨(some 14), 224, none, .bi false .add (.t 7) (.c (.int .i64 1))⟩,
    ⟨(some 7), 112, none, .mv (.t 14)⟩]))))
def c142 : C := (.seq (.reg [⟨(some 1), 16, none, .bx 1 (.t 0)⟩,
    ⟨(some 2), 32, none, .mv (.c (.nil 1))⟩])
  (.seq (.reg [⟨(some 3), 48, none, .mv (.c (.nil 1))⟩])
  (.seq (.seq (.reg [⟨(some 5), 80, none, .ld 1 false (.t 1)⟩,
    ⟨(some 6), 96, none, .len (.t 5)⟩,
    ⟨(some 7), 112, none, .mv (.c (.int .i64 0))⟩])
  (.block 0 (.loop c142L1)))
  (.seq (.reg [⟨(some 15), 240, none, .mv (.t 3)⟩,
    ⟨(some 16), 256, none, .mf (.func 196) [] [(.t 1)]⟩,
    ⟨(some 17), 272, none, .call (.c (.fn (.func 195) [] [])) [(.t 15), (.t 16)]⟩])
  (.seq (.reg [⟨(some 18), 288, none, .mv (.t 3)⟩,
    ⟨(some 2), 32, none, .mv (.t 18)⟩])
  .ret)))))
theorem fits142 : fits Tryz.prog false Tryz.f142 1 19 [(2, none)] = some c142.er := by kernel_rfl
def c122L1 : C := (.seq (.reg [⟨(some 9), 144, none, .bi false .lss (.t 8) (.t 7)⟩])
  (.seq (.cond (.t 9) .skip (.exit 0))
  (.seq (.block 1 (.seq (.reg [⟨(some 10), 160, none, .mv (.t 8)⟩,
    ⟨(some 5), 80, none, .mv (.t 10)⟩])
  (.seq (.reg [⟨(some 11), 176, none, .mv (.t 1)⟩,
    ⟨(some 12), 192, none, .mv (.t 0)⟩,
    ⟨(some 13), 208, none, .mv (.t 5)⟩,
    ⟨(some 14), 224, none, .ia 1 (.t 12) (.t 13)⟩,
    ⟨(some 15), 240, none, .ld 1 false (.t 14)⟩,
    ⟨(some 16), 256, none, .call (.t 11) [(.t 15)]⟩])
  (.cond (.t 16) (.seq (.reg [⟨(some 17), 272, none, .mv (.t 5)⟩,
    ⟨(some 4), 64, none, .mv (.t 17)⟩])
  .ret) .skip))))
  (.reg [⟨(some 18), 288, none, .bi false .add (.t 8) (.c (.int .i64 1))⟩,
    ⟨(some 8), 128, none, .mv (.t 18)⟩]))))
def c122 : C := (.seq (.reg [⟨(some 4), 64, none, .mv (.c (.int .i64 0))⟩])
  (.seq (.seq (.reg [⟨(some 6), 96, none, .mv (.t 0)⟩,
    ⟨(some 7), 112, none, .len (.t 6)⟩,
    ⟨(some 8), 128, none, .mv (.c (.int .i64 0))⟩])
  (.block 0 (.loop c122L1)))
  (.seq (.reg [⟨(some 4), 64, none, .mv (.c (.int .i64 (-1)))⟩])
  .ret)))
theorem fits122 : fits Tryz.prog false Tryz.f122 2 19 [(4, none)] = some c122.er := by kernel_rfl
def inSp (f u d : Int) : Bool := (wi f 364 && wi u 364) && wi d 364 && (if f ≤ u then decide (f ≤ d) && decide (d ≤ u) else decide (f ≤ d) || decide (d ≤ u))
theorem call197 (f u d : Int) : PureCall Tryz.prog 197 [.agg [.int .i64 f, .int .i64 u], .int .i64 d] [] ⟨.bool (inSp f u d), [], []⟩ := by
  refine pure_call mix Tryz.func197 fits197 rfl ?_
  conv => whnf
  refine ⟨_, fun _ => call137 f u, ?_⟩
  conv => whnf
  refine ⟨_, fun _ => call139 d, ?_⟩
  conv => whnf
  refine ⟨?_, fun hc => ?_, fun hc => ?_⟩
  · exact g0
  · have h : inSp f u d = false := by
      unfold inSp
      revert hc
      cases wi f 364 <;> cases wi u 364 <;> cases wi d 364 <;> simp
    rw [h]
    conv => whnf
    refine ⟨?_, [], ?_⟩
    · exact g0
    conv => whnf
    refine ⟨rfl, ?_, trivial, trivial⟩
    all_goals repeat' (first | exact True.intro | refine leF_cons rfl ?_ ?_ | refine leS_cons rfl ?_ ?_ | (show PLe _ _ _ _; conv => whnf) | (show SLe _ _ _ _; conv => whnf) | (show PLeL _ _ _ _; conv => whnf) | apply And.intro | rfl | exact Nat.le_refl _ | exact fun _ _ => rfl | exact rowEq0 _ _)
  have hv : ((wi f 364 && wi u 364) && wi d 364) = true := by
    revert hc
    cases wi f 364 <;> cases wi u 364 <;> cases wi d 364 <;> simp
  conv => whnf
  refine ⟨?_, fun hc => ?_, fun hc => ?_⟩
  · exact g0
  · have h : inSp f u d = (bif decide (f ≤ d) then decide (d ≤ u) else false) := by
      unfold inSp
      rw [hv, if_pos (of_decide_eq_true hc)]
      cases decide (f ≤ d) <;> rfl
    rw [h]
    conv => whnf
    refine ⟨?_, [], ?_⟩
    · exact g0
    conv => whnf
    refine ⟨rfl, ?_, trivial, trivial⟩
    all_goals repeat' (first | exact True.intro | refine leF_cons rfl ?_ ?_ | refine leS_cons rfl ?_ ?_ | (show PLe _ _ _ _; conv => whnf) | (show SLe _ _ _ _; conv => whnf) | (show PLeL _ _ _ _; conv => whnf) | apply And.intro | rfl | exact Nat.le_refl _ | exact fun _ _ => rfl | exact rowEq0 _ _)
  · have h : inSp f u d = (bif decide (f ≤ d) then true else decide (d ≤ u)) := by
      unfold inSp
      rw [hv, if_neg (of_decide_eq_false hc)]
      cases decide (f ≤ d) <;> rfl
    rw [h]
    conv => whnf
    refine ⟨?_, [], ?_⟩
    · exact g0
    conv => whnf
    refine ⟨rfl, ?_, trivial, trivial⟩
    all_goals repeat' (first | exact True.intro | refine leF_cons rfl ?_ ?_ | refine leS_cons rfl ?_ ?_ | (show PLe _ _ _ _; conv => whnf) | (show SLe _ _ _ _; conv => whnf) | (show PLeL _ _ _ _; conv => whnf) | apply And.intro | rfl | exact Nat.le_refl _ | exact fun _ _ => rfl | exact rowEq0 _ _)
def applB (c : Cd) (day level : Int) : Bool := bif bif bif decide (oneC c = 0) then inSp c.f c.u day else false then decide (c.a ≤ level) else false then decide (level ≤ c.b) else false
set_option maxRecDepth 100000 in
theorem call144 (c : Cd) (day level : Int) : PureCall Tryz.prog 144 [.agg (eCd c), .int .i64 day, .int .i64 level] [] ⟨.bool (applB c day level), [], []⟩ := by
  refine pure_call mix Tryz.func144 fits144 rfl ?_
  conv => whnf
  refine ⟨_, fun _ => call70 c, ?_⟩
  conv => whnf
  refine ⟨_, fun _ => call197 c.f c.u day, ?_⟩
  conv => whnf
  refine ⟨?_, [], ?_⟩
  · exact g0
  conv => whnf
  refine ⟨rfl, ?_, trivial, trivial⟩
  all_goals repeat' (first | exact True.intro | refine leF_cons rfl ?_ ?_ | refine leS_cons rfl ?_ ?_ | (show PLe _ _ _ _; conv => whnf) | (show SLe _ _ _ _; conv => whnf) | (show PLeL _ _ _ _; conv => whnf) | apply And.intro | rfl | exact Nat.le_refl _ | exact fun _ _ => rfl | exact rowEq0 _ _)
def goneB (l : List Cd) (day level i : Int) : Bool := !applB (l.getD i.toNat default) day level
theorem call143 (σ σ' τ : Nat) (l : List Cd) (hl : l.length ≤ 4611686018427387904) (day level i : Int) (hi : 0 ≤ i ∧ i < l.length) :
    PureCall Tryz.prog 143 [.int .i64 i, .rp σ [.sl τ 7 l.length (fl eCd l)], .rp σ' [.int .i64 day], .rp σ' [.int .i64 level]] [] ⟨.bool (goneB l day level i), [], []⟩ := by
  unfold goneB
  refine pure_call mix Tryz.func143 fits143 rfl ?_
  conv => whnf
  refine ⟨_, fun _ => call144 (l.getD i.toNat default) day level, ?_⟩
  conv => whnf
  refine ⟨rfl, ?_⟩
  conv => whnf
  refine ⟨?_, [], ?_⟩
  · exact g0
  conv => whnf
  refine ⟨rfl, ?_, trivial, trivial⟩
  all_goals repeat' (first | exact True.intro | refine leF_cons rfl ?_ ?_ | refine leS_cons rfl ?_ ?_ | (show PLe _ _ _ _; conv => whnf) | (show SLe _ _ _ _; conv => whnf) | (show PLeL _ _ _ _; conv => whnf) | apply And.intro | rfl | exact Nat.le_refl _ | exact fun _ _ => rfl | exact rowEq0 _ _)
def ordF (l : List Cd) : Nat → Int := insN (rkC l) (fun k => (k : Int)) l.length
theorem call142 (l : List Cd) (hl : l.length < 20) : PureCall Tryz.prog 142 [.sl 2 7 l.length (fl eCd l)] [] ⟨.os 1000000000, [], [.row 0 3 1 l.length (eR (ordF l))]⟩ := by
  refine pure_call mix Tryz.func142 fits142 rfl ?_
  conv => whnf
  refine ⟨trivial, ?_⟩
  refine LSem.adopt 3 1000000 3 1 1 rfl rfl ?_
  refine LSem.loop (n := 19) mix (α := Nat) (fun i => i ≤ l.length)
    (fun i => [(1, .pt 16 0 0), (3, .os 1000000), (6, .int .i64 l.length), (7, .int .i64 i)])
    (fun i => [(16, .box [.sl 2 7 l.length (fl eCd l)]), (1000000, .row 0 3 1 i (eR (fun k => (k : Int))))]) (fun i => l.length - i) 0 ?_ ?_ ?_
  · exact Nat.zero_le _
  · refine ⟨rfl, rfl, ?_, ?_⟩
    all_goals repeat' (first | exact True.intro | refine leF_cons rfl ?_ ?_ | refine leS_cons rfl ?_ ?_ | (show PLe _ _ _ _; conv => whnf) | (show SLe _ _ _ _; conv => whnf) | (show PLeL _ _ _ _; conv => whnf) | apply And.intro | rfl | exact Nat.le_refl _ | exact fun _ _ => rfl | exact rowEq0 _ _)
  · intro i hi
    conv => whnf
    refine ⟨trivial, fun hc => ?_, fun hc => ?_⟩
    · replace hc := of_decide_eq_true hc
      conv => whnf
      refine ⟨?_, i + 1, by omega, by omega, rfl, rfl, ?_, ?_⟩
      · exact g0
      all_goals repeat' (first | exact True.intro | refine leF_cons rfl ?_ ?_ | refine leS_cons rfl ?_ ?_ | (show PLe _ _ _ _; conv => whnf) | (show SLe _ _ _ _; conv => whnf) | (show PLeL _ _ _ _; conv => whnf) | apply And.intro | rfl | exact Nat.le_refl _ | exact fun _ _ => rfl | exact rowEq0 _ _)
      all_goals
        intro k hk
        unfold appF
        by_cases hki : k < i
        · rw [if_pos hki]
        · rw [if_neg hki]
          have : k = i := by simp at hk; omega
          subst this
          simp [eR]
    · replace hc := of_decide_eq_false hc
      have : i = l.length := by omega
      subst this
      conv => whnf
      refine ⟨_, fun _ => call195 _ _ l (by omega) l.length hl (fun k => (k : Int)) (fun k hk => by omega), ?_⟩
      conv => whnf
      refine ⟨?_, [1000000], ?_⟩
      · exact g0
      conv => whnf
      refine ⟨rfl, ?_, trivial, ?_⟩
      all_goals repeat' (first | exact True.intro | refine leF_cons rfl ?_ ?_ | refine leS_cons rfl ?_ ?_ | (show PLe _ _ _ _; conv => whnf) | (show SLe _ _ _ _; conv => whnf) | (show PLeL _ _ _ _; conv => whnf) | apply And.intro | rfl | exact Nat.le_refl _ | exact fun _ _ => rfl | exact rowEq0 _ _)
def ixF (p : Int → Bool) (g : Nat → Int) : Nat → Nat → Int
  | _, 0 => -1
  | i, n + 1 => if p (g i) = true then i else ixF p g (i + 1) n
theorem ixF_neg {p : Int → Bool} {g : Nat → Int} : ∀ {n i : Nat}, ixF p g i n < 0 → ∀ j, i ≤ j → j < i + n → p (g j) = false
  | 0, i, _, j, h1, h2 => by omega
  | n + 1, i, h, j, h3, h4 => by
    unfold ixF at h
    by_cases hp : p (g i) = true
    · rw [if_pos hp] at h; omega
    · rw [if_neg hp] at h
      by_cases e : j = i
      · rw [e]; simpa using hp
      · exact ixF_neg h j (by omega) (by omega)
theorem ixF_pos {p : Int → Bool} {g : Nat → Int} : ∀ {n i : Nat}, 0 ≤ ixF p g i n → ∃ k : Nat, ixF p g i n = k ∧ i ≤ k ∧ k < i + n ∧ p (g k) = true ∧ ∀ j, i ≤ j → j < k → p (g j) = false
  | 0, i, h => by simp [ixF] at h
  | n + 1, i, h => by
    unfold ixF at h ⊢
    by_cases hp : p (g i) = true
    · rw [if_pos hp]; exact ⟨i, rfl, by omega, by omega, hp, fun j h1 h2 => by omega⟩
    · rw [if_neg hp] at h ⊢
      obtain ⟨k, h1, h2, h3, h4, h5⟩ := ixF_pos h
      refine ⟨k, h1, by omega, by omega, h4, fun j h6 h7 => ?_⟩
      by_cases e : j = i
      · rw [e]; simpa using hp
      · exact h5 j (by omega) h7
theorem call122 (ρ σ τ : Nat) (l : List Cd) (hl : l.length ≤ 4611686018427387904) (day level : Int) (n : Nat) (hn : n ≤ 4611686018427387904) (g : Nat → Int) (hg : ∀ k, k < n → 0 ≤ g k ∧ g k < l.length) :
    PureCall Tryz.prog 122 [.sl ρ 1 n (eR g), .fn (.func 143) [] [.rp σ [.sl τ 7 l.length (fl eCd l)], .rp σ [.int .i64 day], .rp σ [.int .i64 level]]] [] ⟨.int .i64 (ixF (goneB l day level) g 0 n), [], []⟩ := by
  refine pure_call mix Tryz.func122 fits122 rfl ?_
  conv => whnf
  refine ⟨trivial, ?_⟩
  refine LSem.loop (n := 19) mix (α := Nat) (fun i => i ≤ n ∧ ixF (goneB l day level) g i (n - i) = ixF (goneB l day level) g 0 n)
    (fun i => [(0, .sl ρ 1 n (eR g)), (1, .fn (.func 143) [] [.rp σ [.sl τ 7 l.length (fl eCd l)], .rp σ [.int .i64 day], .rp σ [.int .i64 level]]), (7, .int .i64 n), (8, .int .i64 i)])
    (fun i => []) (fun i => n - i) 0 ?_ ?_ ?_
  · exact ⟨Nat.zero_le _, rfl⟩
  · refine ⟨rfl, rfl, ?_, ?_⟩
    all_goals repeat' (first | exact True.intro | refine leF_cons rfl ?_ ?_ | refine leS_cons rfl ?_ ?_ | (show PLe _ _ _ _; conv => whnf) | (show SLe _ _ _ _; conv => whnf) | (show PLeL _ _ _ _; conv => whnf) | apply And.intro | rfl | exact Nat.le_refl _ | exact fun _ _ => rfl | exact rowEq0 _ _)
  · intro i hi
    obtain ⟨hi, hs⟩ := hi
    have hj : ((i : Int)).toNat = i := by omega
    conv => whnf
    refine ⟨trivial, fun hc => ?_, fun hc => ?_⟩
    · replace hc := of_decide_eq_true hc
      have hlt : i < n := by omega
      have hst : ixF (goneB l day level) g i (n - i) = if goneB l day level (g i) = true then (i : Int) else ixF (goneB l day level) g (i + 1) (n - (i + 1)) := by
        rw [show n - i = (n - (i + 1)) + 1 by omega]; rfl
      rw [hst] at hs
      conv => whnf
      refine ⟨_, fun _ => call143 _ _ τ l hl day level (g ((i : Int)).toNat) (by rw [hj]; exact hg i hlt), ?_⟩
      rw [hj]
      conv => whnf
      refine ⟨?_, fun hc2 => ?_, fun hc2 => ?_⟩
      · exact g0
      · rw [if_pos hc2] at hs
        rw [← hs]
        conv => whnf
        refine ⟨?_, [], ?_⟩
        · exact g0
        conv => whnf
        refine ⟨rfl, ?_, trivial, trivial⟩
        all_goals repeat' (first | exact True.intro | refine leF_cons rfl ?_ ?_ | refine leS_cons rfl ?_ ?_ | (show PLe _ _ _ _; conv => whnf) | (show SLe _ _ _ _; conv => whnf) | (show PLeL _ _ _ _; conv => whnf) | apply And.intro | rfl | exact Nat.le_refl _ | exact fun _ _ => rfl | exact rowEq0 _ _)
      · rw [if_neg (by rw [hc2]; decide)] at hs
        conv => whnf
        refine ⟨?_, i + 1, ⟨by omega, hs⟩, ?_, rfl, rfl, ?_, ?_⟩
        · exact g0
        · omega
        all_goals repeat' (first | exact True.intro | refine leF_cons rfl ?_ ?_ | refine leS_cons rfl ?_ ?_ | (show PLe _ _ _ _; conv => whnf) | (show SLe _ _ _ _; conv => whnf) | (show PLeL _ _ _ _; conv => whnf) | apply And.intro | rfl | exact Nat.le_refl _ | exact fun _ _ => rfl | exact rowEq0 _ _)
        all_goals omega
    · replace hc := of_decide_eq_false hc
      rw [show n - i = 0 by omega] at hs
      rw [← hs]
      conv => whnf
      refine ⟨?_, [], ?_⟩
      · exact g0
      conv => whnf
      refine ⟨rfl, ?_, trivial, trivial⟩
      all_goals repeat' (first | exact True.intro | refine leF_cons rfl ?_ ?_ | refine leS_cons rfl ?_ ?_ | (show PLe _ _ _ _; conv => whnf) | (show SLe _ _ _ _; conv => whnf) | (show PLeL _ _ _ _; conv => whnf) | apply And.intro | rfl | exact Nat.le_refl _ | exact fun _ _ => rfl | exact rowEq0 _ _)
end Pv
end Go.Proofs.YtdcgnfkkklbckaaGreatDoor
/- TOP, THE WALKS: what applies (numbers are taken out of a list). -/
set_option linter.unusedSimpArgs false
set_option linter.unusedVariables false
namespace Go.Proofs.YtdcgnfkkklbckaaGreatDoor
namespace Pv
def c141L1 : C := (.seq (.seq (.reg [⟨(some 16), 256, none, .mv (.t 6)⟩,
    ⟨(some 17), 272, none, .mv (.t 0)⟩,
    ⟨(some 18), 288, none, .len (.t 17)⟩,
    ⟨(some 19), 304, none, .bi false .lss (.t 16) (.t 18)⟩])
  (.cond (.t 19) .skip (.exit 0)))
  (.seq (.block 1 (.seq (.reg [⟨(some 22), 352, none, .mv (.t 0)⟩,
    ⟨(some 23), 368, none, .mv (.t 6)⟩,
    ⟨(some 24), 384, none, .ia 1 (.t 22) (.t 23)⟩,
    ⟨(some 25), 400, none, .ld 1 false (.t 24)⟩,
    ⟨(some 7), 112, none, .mv (.t 25)⟩])
  (.seq (.reg [⟨(some 26), 416, none, .mv (.t 1)⟩,
    ⟨(some 27), 432, none, .mv (.t 7)⟩,
    ⟨(some 28), 448, none, .call (.t 26) [(.t 27)]⟩,
    ⟨(some 29), 464, none, .un false .not (.t 28)⟩])
  (.cond (.t 29) (.seq (.reg [⟨(some 30), 480, none, .mv (.t 0)⟩,
    ⟨(some 31), 496, none, .mv (.t 5)⟩,
    ⟨(some 32), 512, none, .mv (.t 7)⟩,
    ⟨(some 33), 528, none, .ia 1 (.t 30) (.t 31)⟩,
    ⟨none, 0, none, .st 1 (.t 33) (.t 32)⟩])
  (.reg [⟨(some 34), 544, none, .mv (.t 5)⟩,
    ⟨(some 35), 560, none, .bi false .add (.t 34) (.c (.int .i64 1))⟩,
    ⟨(some 5), 80, none, .mv (.t 35)⟩])) .skip))))
  (.reg [⟨(some 20), 320, none, .mv (.t 6)⟩,
    ⟨(some 21), 336, none, .bi false .add (.t 20) (.c (.int .i64 1))⟩,
    ⟨(some 6), 96, none, .mv (.t 21)⟩])))
def c141 : C := (.seq (.reg [⟨(some 4), 64, none, .mv (.c (.nil 1))⟩])
  (.seq (.reg [⟨(some 8), 128, none, .mv (.t 0)⟩,
    ⟨(some 9), 144, none, .mv (.t 1)⟩,
    ⟨(some 10), 160, none, .call (.c (.fn (.func 122) [] [])) [(.t 8), (.t 9)]⟩,
    ⟨(some 5), 80, none, .mv (.t 10)⟩])
  (.seq (.seq (.reg [⟨(some 11), 176, none, .mv (.t 5)⟩,
    ⟨(some 12), 192, none, .bi false .eql (.t 11) (.c (.int .i64 (-1)))⟩])
  (.cond (.t 12) (.seq (.reg [⟨(some 13), 208, none, .mv (.t 0)⟩,
    ⟨(some 4), 64, none, .mv (.t 13)⟩])
  .ret) .skip))
  (.seq (.seq (.reg [⟨(some 14), 224, none, .mv (.t 5)⟩,
    ⟨(some 15), 240, none, .bi false .add (.t 14) (.c (.int .i64 1))⟩,
    ⟨(some 6), 96, none, .mv (.t 15)⟩])
  (.block 0 (.loop c141L1)))
  (.seq (.reg [⟨(some 36), 576, none, .mv (.t 0)⟩,
    ⟨(some 37), 592, none, .mv (.t 5)⟩,
    ⟨(some 38), 608, none, .slc 1 (.t 36) (some (.t 37)) none⟩,
    ⟨none, 0, none, .clr [(.int .i64 0)] (.t 38)⟩])
  (.seq (.reg [⟨(some 39), 624, none, .mv (.t 0)⟩,
    ⟨(some 40), 640, none, .mv (.t 5)⟩,
    ⟨(some 41), 656, none, .slc 1 (.t 39) none (some (.t 40))⟩,
    ⟨(some 4), 64, none, .mv (.t 41)⟩])
  .ret))))))
theorem fits141 : fits Tryz.prog false Tryz.f141 2 42 [(4, none)] = some c141.er := by kernel_rfl
def c74 : C := (.seq (.reg [⟨(some 3), 48, none, .bx 1 (.t 0)⟩,
    ⟨(some 4), 64, none, .bx 1 (.t 1)⟩,
    ⟨(some 5), 80, none, .bx 1 (.t 2)⟩,
    ⟨(some 6), 96, none, .mv (.c (.nil 1))⟩,
    ⟨(some 7), 112, none, .mv (.c (.int .i64 0))⟩])
  (.seq (.seq (.reg [⟨(some 9), 144, none, .ld 1 false (.t 3)⟩,
    ⟨(some 10), 160, none, .ld 1 false (.t 4)⟩,
    ⟨(some 11), 176, none, .ld 1 false (.t 5)⟩,
    ⟨(some 12), 192, none, .call (.c (.fn (.func 73) [] [])) [(.t 9), (.t 10), (.t 11), (.c (.nil 1))]⟩,
    ⟨(some 8), 128, none, .mv (.t 12)⟩])
  (.seq (.reg [⟨(some 13), 208, none, .mv (.t 8)⟩,
    ⟨(some 14), 224, none, .bi false .neq (.t 13) (.c (.int .i64 0))⟩])
  (.cond (.t 14) (.seq (.reg [⟨(some 15), 240, none, .mv (.t 8)⟩,
    ⟨(some 6), 96, none, .mv (.c (.nil 1))⟩,
    ⟨(some 7), 112, none, .mv (.t 15)⟩])
  .ret) .skip)))
  (.seq (.reg [⟨(some 16), 256, none, .ld 1 false (.t 3)⟩,
    ⟨(some 17), 272, none, .call (.c (.fn (.func 142) [] [])) [(.t 16)]⟩,
    ⟨(some 18), 288, none, .mf (.func 143) [] [(.t 3), (.t 4), (.t 5)]⟩,
    ⟨(some 19), 304, none, .call (.c (.fn (.func 141) [] [])) [(.t 17), (.t 18)]⟩,
    ⟨(some 6), 96, none, .mv (.t 19)⟩,
    ⟨(some 7), 112, none, .mv (.c (.int .i64 0))⟩])
  .ret)))
theorem fits74 : fits Tryz.prog false Tryz.f74 3 20 [(6, none), (7, none)] = some c74.er := by kernel_rfl
def keepN (p : Int → Bool) (g : Nat → Int) : Nat → List Int
  | 0 => []
  | n + 1 => if p (g n) = true then keepN p g n else keepN p g n ++ [g n]
theorem keepN_len {p : Int → Bool} {g : Nat → Int} : ∀ n, (keepN p g n).length ≤ n
  | 0 => Nat.le_refl _
  | n + 1 => by
    have := keepN_len (p := p) (g := g) n
    unfold keepN
    split
    · omega
    · simp; omega
theorem keepN_all {p : Int → Bool} {g : Nat → Int} : ∀ n, (∀ k, k < n → p (g k) = false) → keepN p g n = (List.range n).map g
  | 0, _ => rfl
  | n + 1, h => by
    unfold keepN
    rw [if_neg (by rw [h n (by omega)]; decide), keepN_all n (fun k hk => h k (by omega)), List.range_succ, List.map_append]
    rfl
theorem keepN_mem {p : Int → Bool} {g : Nat → Int} : ∀ n x, x ∈ keepN p g n → ∃ k, k < n ∧ x = g k ∧ p x = false
  | 0, x, h => by simp [keepN] at h
  | n + 1, x, h => by
    unfold keepN at h
    split at h
    · obtain ⟨k, h1, h2⟩ := keepN_mem n x h
      exact ⟨k, by omega, h2⟩
    · rename_i hp
      rcases List.mem_append.1 h with h | h
      · obtain ⟨k, h1, h2⟩ := keepN_mem n x h
        exact ⟨k, by omega, h2⟩
      · simp at h
        exact ⟨n, by omega, h, by rw [h]; simpa using hp⟩
def delF (K : List Int) (g : Nat → Int) : Nat → Int := fun k => if k < K.length then K.getD k default else g k
set_option maxRecDepth 100000 in
set_option maxHeartbeats 4000000 in
theorem call141 (σ τ : Nat) (l : List Cd) (hl : l.length ≤ 4611686018427387904) (day level : Int) (n : Nat) (hn : n ≤ 4611686018427387904) (g : Nat → Int) (hg : ∀ k, k < n → 0 ≤ g k ∧ g k < l.length) :
    PureCall Tryz.prog 141 [.os 0, .fn (.func 143) [] [.rp σ [.sl τ 7 l.length (fl eCd l)], .rp σ [.int .i64 day], .rp σ [.int .i64 level]]] [.row 1 3 1 n (eR g)]
      ⟨.os 1000000000, [], [.row 1 3 1 (keepN (goneB l day level) g n).length (fl eInt (keepN (goneB l day level) g n))]⟩ := by
  refine pure_call mix Tryz.func141 fits141 rfl ?_
  conv => whnf
  refine ⟨_, fun _ => call122 _ _ τ l hl day level n hn g hg, ?_⟩
  conv => whnf
  refine ⟨?_, fun hc => ?_, fun hc => ?_⟩
  · exact g0
  · replace hc := of_decide_eq_true hc
    have hall := ixF_neg (p := goneB l day level) (g := g) (n := n) (i := 0) (by omega)
    rw [keepN_all n (fun k hk => hall k (by omega) (by omega))]
    conv => whnf
    refine ⟨?_, [0], ?_⟩
    · exact g0
    conv => whnf
    refine ⟨rfl, ?_, trivial, ?_⟩
    all_goals repeat' (first | exact True.intro | refine leF_cons rfl ?_ ?_ | refine leS_cons rfl ?_ ?_ | (show PLe _ _ _ _; conv => whnf) | (show SLe _ _ _ _; conv => whnf) | (show PLeL _ _ _ _; conv => whnf) | apply And.intro | rfl | exact Nat.le_refl _ | exact fun _ _ => rfl | exact rowEq0 _ _)
    all_goals first | (simp; done) | skip
    all_goals
      intro k hk
      show [PV.int .i64 (g k)] = eInt (((List.range n).map g).getD k default)
      rw [List.getD_eq_getElem?_getD, List.getElem?_map, List.getElem?_range hk]
      rfl
  · replace hc := of_decide_eq_false hc
    obtain ⟨i0, hi0, _, hlt0, hp0, hall⟩ := ixF_pos (p := goneB l day level) (g := g) (n := n) (i := 0) (by
      rcases Int.lt_or_le (ixF (goneB l day level) g 0 n) 0 with h | h
      · exfalso
        have : ∀ (n i : Nat), -1 ≤ ixF (goneB l day level) g i n := fun n => by
          induction n with
          | zero => intro i; exact Int.le_refl _
          | succ n ih => intro i; unfold ixF; split
                         · omega
                         · exact ih _
        have := this n 0
        omega
      · exact h)
    rw [hi0]
    conv => whnf
    refine ⟨?_, ?_⟩
    · exact g0
    have hk0 : keepN (goneB l day level) g (i0 + 1) = (List.range i0).map g := by
      unfold keepN
      rw [if_pos hp0, keepN_all i0 (fun k hk => hall k (by omega) hk)]
    refine LSem.loop (n := 42) mix (α := Nat) (fun i => i ≤ n)
      (fun i => [(0, .os 0), (1, .fn (.func 143) [] [.rp σ [.sl τ 7 l.length (fl eCd l)], .rp σ [.int .i64 day], .rp σ [.int .i64 level]]), (5, .int .i64 (keepN (goneB l day level) g i).length), (6, .int .i64 i)])
      (fun i => [(0, .row 1 3 1 n (eR (delF (keepN (goneB l day level) g i) g)))]) (fun i => n - i) (i0 + 1) ?_ ?_ ?_
    · show i0 + 1 ≤ n; omega
    · refine ⟨rfl, rfl, ?_, ?_⟩
      all_goals repeat' (first | exact True.intro | refine leF_cons rfl ?_ ?_ | refine leS_cons rfl ?_ ?_ | (show PLe _ _ _ _; conv => whnf) | (show SLe _ _ _ _; conv => whnf) | (show PLeL _ _ _ _; conv => whnf) | apply And.intro | rfl | exact Nat.le_refl _ | exact fun _ _ => rfl | exact rowEq0 _ _)
      all_goals first | (rw [hk0]; simp; done) | skip
      all_goals
        intro k hk
        rw [hk0]
        unfold delF eR
        dsimp only
        by_cases h : k < ((List.range i0).map g).length
        · rw [if_pos h, List.getD_eq_getElem?_getD, List.getElem?_map, List.getElem?_range (by simpa using h)]
          rfl
        · rw [if_neg h]
    · intro i hi
      have hj : ((i : Int)).toNat = i := by omega
      have hkl := keepN_len (p := goneB l day level) (g := g) i
      have hd : delF (keepN (goneB l day level) g i) g i = g i := if_neg (by omega)
      conv => whnf
      refine ⟨trivial, fun hc => ?_, fun hc => ?_⟩
      · replace hc := of_decide_eq_true hc
        have hlt : i < n := by omega
        conv => whnf
        refine ⟨_, fun _ => call143 _ _ τ l hl day level (delF (keepN (goneB l day level) g i) g ((i : Int)).toNat) (by rw [hj, hd]; exact hg i hlt), ?_⟩
        rw [hj, hd]
        conv => whnf
        refine ⟨?_, fun hc2 => ?_, fun hc2 => ?_⟩
        · exact g0
        · have hk1 : keepN (goneB l day level) g (i + 1) = keepN (goneB l day level) g i ++ [g i] := by
            rw [keepN, if_neg (by intro h; rw [h] at hc2; cases hc2)]
          conv => whnf
          refine ⟨?_, i + 1, hlt, ?_, rfl, rfl, ?_, ?_⟩
          · exact g0
          · omega
          all_goals repeat' (first | exact True.intro | refine leF_cons rfl ?_ ?_ | refine leS_cons rfl ?_ ?_ | (show PLe _ _ _ _; conv => whnf) | (show SLe _ _ _ _; conv => whnf) | (show PLeL _ _ _ _; conv => whnf) | apply And.intro | rfl | exact Nat.le_refl _ | exact fun _ _ => rfl | exact rowEq0 _ _)
          all_goals first | (rw [hk1]; simp; done) | skip
          all_goals
            intro k hk
            rw [hk1]
            have e3 : ((keepN (goneB l day level) g i).length : Int).toNat = (keepN (goneB l day level) g i).length := by omega
            dsimp only
            rw [e3]
            unfold delF eR
            dsimp only
            rw [List.length_append]
            simp only [List.length_cons, List.length_nil]
            by_cases h1 : k = (keepN (goneB l day level) g i).length
            · subst h1
              simp [setAt, PV.cells]
            · rw [if_neg h1]
              by_cases h2 : k < (keepN (goneB l day level) g i).length
              · rw [if_pos h2, if_pos (by omega), List.getD_eq_getElem?_getD, List.getD_eq_getElem?_getD, List.getElem?_append_left h2]
              · rw [if_neg h2, if_neg (by omega)]
        · have hk1 : keepN (goneB l day level) g (i + 1) = keepN (goneB l day level) g i := by
            rw [keepN, if_pos (by cases hq : goneB l day level (g i) with | true => rfl | false => rw [hq] at hc2; cases hc2)]
          conv => whnf
          refine ⟨?_, i + 1, hlt, ?_, rfl, rfl, ?_, ?_⟩
          · exact g0
          · omega
          all_goals repeat' (first | exact True.intro | refine leF_cons rfl ?_ ?_ | refine leS_cons rfl ?_ ?_ | (show PLe _ _ _ _; conv => whnf) | (show SLe _ _ _ _; conv => whnf) | (show PLeL _ _ _ _; conv => whnf) | apply And.intro | rfl | exact Nat.le_refl _ | exact fun _ _ => rfl | exact rowEq0 _ _)
          all_goals first | (rw [hk1]; done) | skip
          all_goals (rw [hk1]; exact fun _ _ => rfl)
      · replace hc := of_decide_eq_false hc
        have : i = n := by
          have : ¬ i < n := by omega
          omega
        subst this
        conv => whnf
        refine ⟨?_, [0], ?_⟩
        · exact g0
        conv => whnf
        refine ⟨rfl, ?_, trivial, ?_⟩
        all_goals repeat' (first | exact True.intro | refine leF_cons rfl ?_ ?_ | refine leS_cons rfl ?_ ?_ | (show PLe _ _ _ _; conv => whnf) | (show SLe _ _ _ _; conv => whnf) | (show PLeL _ _ _ _; conv => whnf) | apply And.intro | rfl | exact Nat.le_refl _ | exact fun _ _ => rfl | exact rowEq0 _ _)
        all_goals
          intro k hk
          have e3 : ((keepN (goneB l day level) g i).length : Int).toNat = (keepN (goneB l day level) g i).length := by omega
          rw [e3] at hk
          dsimp only
          rw [e3, if_neg (by omega)]
          unfold eR delF fl eInt
          rw [if_pos hk]
def actF (l : List Cd) (day level : Int) : List Int := keepN (goneB l day level) (ordF l) l.length
theorem ordF_in (l : List Cd) : ∀ k, k < l.length → 0 ≤ ordF l k ∧ ordF l k < l.length :=
  insN_in (p := fun x => 0 ≤ x ∧ x < l.length) _ (fun k hk => by omega) l.length (Nat.le_refl _)
def askE (l : List Cd) (day level : Int) (fs : List Int) : Int := if limC l ≠ 0 then limC l else if wi day 364 = false ∨ wi level 16777216 = false ∨ fs.any (fun n => !wi n 1073741824) = true then 1 else 0
end Pv
end Go.Proofs.YtdcgnfkkklbckaaGreatDoor
/- TOP, THE WALKS: what is asked for; the conditions that apply; what a condition permits. -/
set_option linter.unusedSimpArgs false
set_option linter.unusedVariables false
namespace Go.Proofs.YtdcgnfkkklbckaaGreatDoor
namespace Pv
def c140 : C := (.seq (.reg [⟨(some 2), 32, none, .mv (.c (.bool false))⟩])
  (.seq (.reg [⟨(some 3), 48, none, .mv (.t 0)⟩,
    ⟨(some 4), 64, none, .call (.c (.fn (.func 56) [] [])) [(.t 3), (.c (.int .i64 1073741824))]⟩,
    ⟨(some 5), 80, none, .un false .not (.t 4)⟩,
    ⟨(some 2), 32, none, .mv (.t 5)⟩])
  .ret))
theorem fits140 : fits Tryz.prog false Tryz.f140 1 6 [(2, none)] = some c140.er := by kernel_rfl
def c54 : C := (.seq (.reg [⟨(some 4), 64, none, .mv (.c (.bool false))⟩])
  (.seq (.reg [⟨(some 5), 80, none, .mv (.t 0)⟩,
    ⟨(some 6), 96, none, .mv (.t 1)⟩,
    ⟨(some 7), 112, none, .call (.c (.fn (.func 122) [] [])) [(.t 5), (.t 6)]⟩,
    ⟨(some 8), 128, none, .bi false .geq (.t 7) (.c (.int .i64 0))⟩,
    ⟨(some 4), 64, none, .mv (.t 8)⟩])
  .ret))
theorem fits54 : fits Tryz.prog false Tryz.f54 2 9 [(4, none)] = some c54.er := by kernel_rfl
def c73 : C := (.seq (.reg [⟨(some 8), 128, none, .mv (.c (.int .i64 0))⟩])
  (.seq (.seq (.reg [⟨(some 10), 160, none, .mv (.t 0)⟩,
    ⟨(some 11), 176, none, .call (.c (.fn (.func 62) [] [])) [(.t 10)]⟩,
    ⟨(some 9), 144, none, .mv (.t 11)⟩])
  (.seq (.reg [⟨(some 12), 192, none, .mv (.t 9)⟩,
    ⟨(some 13), 208, none, .bi false .neq (.t 12) (.c (.int .i64 0))⟩])
  (.cond (.t 13) (.seq (.reg [⟨(some 14), 224, none, .mv (.t 9)⟩,
    ⟨(some 8), 128, none, .mv (.t 14)⟩])
  .ret) .skip)))
  (.seq (.seq (.reg [⟨(some 15), 240, none, .mv (.t 1)⟩,
    ⟨(some 16), 256, none, .call (.c (.fn (.func 139) [] [])) [(.t 15)]⟩,
    ⟨(some 17), 272, none, .un false .not (.t 16)⟩,
    ⟨(some 18), 288, none, .mv (.t 17)⟩,
    ⟨(some 19), 304, (some (18, false)), .mv (.t 2)⟩,
    ⟨(some 20), 320, (some (18, false)), .call (.c (.fn (.func 56) [] [])) [(.t 19), (.c (.int .i64 16777216))]⟩,
    ⟨(some 21), 336, (some (18, false)), .un false .not (.t 20)⟩,
    ⟨(some 22), 352, none, .pick (.t 18) (.c (.bool true)) (.t 21)⟩,
    ⟨(some 23), 368, none, .mv (.t 22)⟩,
    ⟨(some 24), 384, (some (23, false)), .mv (.t 3)⟩,
    ⟨(some 25), 400, (some (23, false)), .call (.c (.fn (.func 54) [] [])) [(.t 24), (.c (.fn (.func 140) [] []))]⟩,
    ⟨(some 26), 416, none, .pick (.t 23) (.c (.bool true)) (.t 25)⟩])
  (.cond (.t 26) (.seq (.reg [⟨(some 8), 128, none, .mv (.c (.int .i64 1))⟩])
  .ret) .skip))
  (.seq (.reg [⟨(some 8), 128, none, .mv (.c (.int .i64 0))⟩])
  .ret))))
theorem fits73 : fits Tryz.prog false Tryz.f73 4 27 [(8, none)] = some c73.er := by kernel_rfl
def c138 : C := (.seq (.reg [⟨(some 3), 48, none, .bx 2 (.t 1)⟩,
    ⟨(some 4), 64, none, .mv (.c (.int .i64 0))⟩])
  (.seq (.reg [⟨(some 5), 80, none, .mv (.t 0)⟩,
    ⟨(some 6), 96, none, .fa 1 (.t 3)⟩,
    ⟨(some 7), 112, none, .ld 1 false (.t 6)⟩,
    ⟨(some 8), 128, none, .mn [(.t 5), (.t 7)]⟩,
    ⟨(some 9), 144, none, .fa 0 (.t 3)⟩,
    ⟨(some 10), 160, none, .ld 1 false (.t 9)⟩,
    ⟨(some 11), 176, none, .mx [(.t 8), (.t 10)]⟩,
    ⟨(some 4), 64, none, .mv (.t 11)⟩])
  .ret))
theorem fits138 : fits Tryz.prog false Tryz.f138 2 12 [(4, none)] = some c138.er := by kernel_rfl
def c145 : C := (.seq (.reg [⟨(some 2), 32, none, .bx 7 (.t 0)⟩,
    ⟨(some 4), 64, none, .al [(.int .i64 0), (.int .i64 0)]⟩])
  (.seq (.reg [⟨(some 7), 112, none, .bd [(.int .i64 0), (.int .i64 0)] [(1, 1, (.c (.int .i64 1073741824)))]⟩,
    ⟨(some 5), 80, none, .al [(.int .i64 0), (.int .i64 0)]⟩,
    ⟨none, 0, none, .st 2 (.t 5) (.t 7)⟩])
  (.seq (.reg [⟨(some 8), 128, none, .fa 1 (.t 2)⟩,
    ⟨(some 9), 144, none, .ld 1 false (.t 8)⟩,
    ⟨(some 10), 160, none, .iaa 5 2 (.c (.rp 1 [(.bool false), (.bool false), (.bool true), (.bool false), (.bool false), (.bool false), (.bool false), (.bool true), (.bool true), (.bool true)])) (.t 9)⟩,
    ⟨(some 11), 176, none, .ld 2 true (.t 10)⟩,
    ⟨(some 6), 96, none, .al [(.bool false), (.bool false)]⟩,
    ⟨none, 0, none, .st 2 (.t 6) (.t 11)⟩])
  (.seq (.block 0 (.seq (.reg [⟨(some 16), 256, none, .fa 0 (.t 6)⟩,
    ⟨(some 17), 272, none, .ld 1 false (.t 16)⟩,
    ⟨(some 18), 288, none, .mv (.t 17)⟩,
    ⟨(some 19), 304, (some (18, true)), .fa 1 (.t 6)⟩,
    ⟨(some 20), 320, (some (18, true)), .ld 1 false (.t 19)⟩,
    ⟨(some 21), 336, none, .pick (.t 18) (.t 20) (.c (.bool false))⟩,
    ⟨(some 15), 240, none, .mv (.t 21)⟩])
  (.cond (.t 15) (.reg [⟨(some 22), 352, none, .mv (.t 1)⟩,
    ⟨(some 23), 368, none, .fa 2 (.t 2)⟩,
    ⟨(some 24), 384, none, .ld 1 false (.t 23)⟩,
    ⟨(some 25), 400, none, .bi false .sub (.t 22) (.t 24)⟩,
    ⟨(some 26), 416, none, .mx [(.t 25), (.c (.int .i64 0))]⟩,
    ⟨(some 27), 432, none, .fa 0 (.t 5)⟩,
    ⟨none, 0, none, .st 1 (.t 27) (.t 26)⟩]) (.seq (.reg [⟨(some 29), 464, none, .fa 1 (.t 6)⟩,
    ⟨(some 30), 480, none, .ld 1 false (.t 29)⟩,
    ⟨(some 28), 448, none, .mv (.t 30)⟩])
  (.cond (.t 28) (.reg [⟨(some 31), 496, none, .mv (.t 1)⟩,
    ⟨(some 32), 512, none, .fa 2 (.t 2)⟩,
    ⟨(some 33), 528, none, .ld 1 false (.t 32)⟩,
    ⟨(some 34), 544, none, .bi false .add (.t 31) (.t 33)⟩,
    ⟨(some 35), 560, none, .mn [(.t 34), (.c (.int .i64 1073741824))]⟩,
    ⟨(some 36), 576, none, .fa 1 (.t 5)⟩,
    ⟨none, 0, none, .st 1 (.t 36) (.t 35)⟩]) (.seq (.reg [⟨(some 38), 608, none, .fa 0 (.t 6)⟩,
    ⟨(some 39), 624, none, .ld 1 false (.t 38)⟩,
    ⟨(some 37), 592, none, .mv (.t 39)⟩])
  (.cond (.t 37) (.reg [⟨(some 40), 640, none, .fa 2 (.t 2)⟩,
    ⟨(some 41), 656, none, .ld 1 false (.t 40)⟩,
    ⟨(some 42), 672, none, .fa 0 (.t 5)⟩,
    ⟨none, 0, none, .st 1 (.t 42) (.t 41)⟩]) (.reg [⟨(some 12), 192, none, .fa 2 (.t 2)⟩,
    ⟨(some 13), 208, none, .ld 1 false (.t 12)⟩,
    ⟨(some 14), 224, none, .fa 1 (.t 5)⟩,
    ⟨none, 0, none, .st 1 (.t 14) (.t 13)⟩]))))))))
  (.seq (.reg [⟨(some 43), 688, none, .ld 2 true (.t 5)⟩,
    ⟨none, 0, none, .st 2 (.t 4) (.t 43)⟩])
  .ret)))))
theorem fits145 : fits Tryz.prog false Tryz.f145 2 44 [(4, some (2, true))] = some c145.er := by kernel_rfl
def c79 : C := (.seq (.reg [⟨(some 2), 32, none, .bx 7 (.t 0)⟩,
    ⟨(some 4), 64, none, .al [(.int .i64 0), (.int .i64 0)]⟩,
    ⟨(some 5), 80, none, .mv (.c (.bool false))⟩])
  (.seq (.seq (.reg [⟨(some 6), 96, none, .ld 7 true (.t 2)⟩,
    ⟨(some 7), 112, none, .call (.c (.fn (.func 70) [] [])) [(.t 6)]⟩,
    ⟨(some 8), 128, none, .bi false .neq (.t 7) (.c (.int .i64 0))⟩,
    ⟨(some 9), 144, none, .mv (.t 8)⟩,
    ⟨(some 10), 160, (some (9, false)), .mv (.t 1)⟩,
    ⟨(some 11), 176, (some (9, false)), .call (.c (.fn (.func 56) [] [])) [(.t 10), (.c (.int .i64 1073741824))]⟩,
    ⟨(some 12), 192, (some (9, false)), .un false .not (.t 11)⟩,
    ⟨(some 13), 208, none, .pick (.t 9) (.c (.bool true)) (.t 12)⟩])
  (.cond (.t 13) (.seq (.reg [⟨(some 14), 224, none, .bd [(.int .i64 0), (.int .i64 0)] []⟩,
    ⟨none, 0, none, .st 2 (.t 4) (.t 14)⟩,
    ⟨(some 5), 80, none, .mv (.c (.bool false))⟩])
  .ret) .skip))
  (.seq (.reg [⟨(some 15), 240, none, .ld 7 true (.t 2)⟩,
    ⟨(some 16), 256, none, .mv (.t 1)⟩,
    ⟨(some 17), 272, none, .call (.c (.fn (.func 145) [] [])) [(.t 15), (.t 16)]⟩,
    ⟨none, 0, none, .st 2 (.t 4) (.t 17)⟩,
    ⟨(some 5), 80, none, .mv (.c (.bool true))⟩])
  .ret)))
theorem fits79 : fits Tryz.prog false Tryz.f79 2 18 [(4, some (2, true)), (5, none)] = some c79.er := by kernel_rfl
def c71 : C := (.seq (.reg [⟨(some 10), 160, none, .bx 2 (.t 4)⟩,
    ⟨(some 12), 192, none, .mv (.c (.int .i64 0))⟩])
  (.seq (.seq (.reg [⟨(some 14), 224, none, .mv (.t 0)⟩,
    ⟨(some 15), 240, none, .mv (.t 1)⟩,
    ⟨(some 16), 256, none, .mv (.t 2)⟩,
    ⟨(some 17), 272, none, .mv (.t 3)⟩,
    ⟨(some 18), 288, none, .mv (.t 5)⟩,
    ⟨(some 19), 304, none, .fa 0 (.t 10)⟩,
    ⟨(some 20), 320, none, .ld 1 false (.t 19)⟩,
    ⟨(some 21), 336, none, .fa 1 (.t 10)⟩,
    ⟨(some 22), 352, none, .ld 1 false (.t 21)⟩,
    ⟨(some 23), 368, none, .bs 3 1 [(.t 17), (.t 18), (.t 20), (.t 22)]⟩,
    ⟨(some 24), 384, none, .call (.c (.fn (.func 73) [] [])) [(.t 14), (.t 15), (.t 16), (.t 23)]⟩,
    ⟨(some 13), 208, none, .mv (.t 24)⟩])
  (.seq (.reg [⟨(some 25), 400, none, .mv (.t 13)⟩,
    ⟨(some 26), 416, none, .bi false .neq (.t 25) (.c (.int .i64 0))⟩])
  (.cond (.t 26) (.seq (.reg [⟨(some 27), 432, none, .mv (.t 13)⟩,
    ⟨(some 12), 192, none, .mv (.t 27)⟩])
  .ret) .skip)))
  (.seq (.seq (.reg [⟨(some 28), 448, none, .fa 0 (.t 10)⟩,
    ⟨(some 29), 464, none, .ld 1 false (.t 28)⟩,
    ⟨(some 30), 480, none, .fa 1 (.t 10)⟩,
    ⟨(some 31), 496, none, .ld 1 false (.t 30)⟩,
    ⟨(some 32), 512, none, .bi false .gtr (.t 29) (.t 31)⟩])
  (.cond (.t 32) (.seq (.reg [⟨(some 12), 192, none, .mv (.c (.int .i64 3))⟩])
  .ret) .skip))
  (.seq (.reg [⟨(some 12), 192, none, .mv (.c (.int .i64 0))⟩])
  .ret))))
theorem fits71 : fits Tryz.prog false Tryz.f71 6 33 [(12, none)] = some c71.er := by kernel_rfl
theorem call140 (n : Int) : PureCall Tryz.prog 140 [.int .i64 n] [] ⟨.bool (!wi n 1073741824), [], []⟩ := by
  refine pure_call mix Tryz.func140 fits140 rfl ?_
  conv => whnf
  refine ⟨_, fun _ => call56 n 1073741824, ?_⟩
  conv => whnf
  refine ⟨?_, [], ?_⟩
  · exact g0
  conv => whnf
  refine ⟨rfl, ?_, trivial, trivial⟩
  all_goals repeat' (first | exact True.intro | refine leF_cons rfl ?_ ?_ | refine leS_cons rfl ?_ ?_ | (show PLe _ _ _ _; conv => whnf) | (show SLe _ _ _ _; conv => whnf) | (show PLeL _ _ _ _; conv => whnf) | apply And.intro | rfl | exact Nat.le_refl _ | exact fun _ _ => rfl | exact rowEq0 _ _)
theorem call122f (ρ : Nat) (l : List Int) (hn : l.length ≤ 4611686018427387904) (hg : ∀ x ∈ l, wi x 1073741824 = true) :
    PureCall Tryz.prog 122 [.sl ρ 1 l.length (fl eInt l), .fn (.func 140) [] []] [] ⟨.int .i64 (-1), [], []⟩ := by
  refine pure_call mix Tryz.func122 fits122 rfl ?_
  conv => whnf
  refine ⟨trivial, ?_⟩
  refine LSem.loop (n := 19) mix (α := Nat) (fun i => i ≤ l.length)
    (fun i => [(0, .sl ρ 1 l.length (fl eInt l)), (1, .fn (.func 140) [] []), (7, .int .i64 l.length), (8, .int .i64 i)])
    (fun i => []) (fun i => l.length - i) 0 ?_ ?_ ?_
  · exact Nat.zero_le _
  · refine ⟨rfl, rfl, ?_, ?_⟩
    all_goals repeat' (first | exact True.intro | refine leF_cons rfl ?_ ?_ | refine leS_cons rfl ?_ ?_ | (show PLe _ _ _ _; conv => whnf) | (show SLe _ _ _ _; conv => whnf) | (show PLeL _ _ _ _; conv => whnf) | apply And.intro | rfl | exact Nat.le_refl _ | exact fun _ _ => rfl | exact rowEq0 _ _)
  · intro i hi
    have hj : ((i : Int)).toNat = i := by omega
    conv => whnf
    refine ⟨trivial, fun hc => ?_, fun hc => ?_⟩
    · replace hc := of_decide_eq_true hc
      have hlt : i < l.length := by omega
      have hm : l.getD i default ∈ l := by
        rw [List.getD_eq_getElem?_getD, List.getElem?_eq_getElem hlt]; exact List.getElem_mem hlt
      conv => whnf
      refine ⟨_, fun _ => call140 (l.getD ((i : Int)).toNat default), ?_⟩
      rw [hj, hg _ hm]
      conv => whnf
      refine ⟨?_, fun hc2 => (by cases hc2), fun hc2 => ?_⟩
      · exact g0
      conv => whnf
      refine ⟨?_, i + 1, hlt, ?_, rfl, rfl, ?_, ?_⟩
      · exact g0
      · omega
      all_goals repeat' (first | exact True.intro | refine leF_cons rfl ?_ ?_ | refine leS_cons rfl ?_ ?_ | (show PLe _ _ _ _; conv => whnf) | (show SLe _ _ _ _; conv => whnf) | (show PLeL _ _ _ _; conv => whnf) | apply And.intro | rfl | exact Nat.le_refl _ | exact fun _ _ => rfl | exact rowEq0 _ _)
      all_goals omega
    · replace hc := of_decide_eq_false hc
      conv => whnf
      refine ⟨?_, [], ?_⟩
      · exact g0
      conv => whnf
      refine ⟨rfl, ?_, trivial, trivial⟩
      all_goals repeat' (first | exact True.intro | refine leF_cons rfl ?_ ?_ | refine leS_cons rfl ?_ ?_ | (show PLe _ _ _ _; conv => whnf) | (show SLe _ _ _ _; conv => whnf) | (show PLeL _ _ _ _; conv => whnf) | apply And.intro | rfl | exact Nat.le_refl _ | exact fun _ _ => rfl | exact rowEq0 _ _)
theorem call54f (ρ : Nat) (l : List Int) (hn : l.length ≤ 4611686018427387904) (hg : ∀ x ∈ l, wi x 1073741824 = true) :
    PureCall Tryz.prog 54 [.sl ρ 1 l.length (fl eInt l), .fn (.func 140) [] []] [] ⟨.bool false, [], []⟩ := by
  refine pure_call mix Tryz.func54 fits54 rfl ?_
  conv => whnf
  refine ⟨_, fun _ => call122f _ l hn hg, ?_⟩
  conv => whnf
  refine ⟨?_, [], ?_⟩
  · exact g0
  conv => whnf
  refine ⟨rfl, ?_, trivial, trivial⟩
  all_goals repeat' (first | exact True.intro | refine leF_cons rfl ?_ ?_ | refine leS_cons rfl ?_ ?_ | (show PLe _ _ _ _; conv => whnf) | (show SLe _ _ _ _; conv => whnf) | (show PLeL _ _ _ _; conv => whnf) | apply And.intro | rfl | exact Nat.le_refl _ | exact fun _ _ => rfl | exact rowEq0 _ _)
theorem call73 (τ ρ : Nat) (l : List Cd) (day level : Int) (fs : List Int) (hn : fs.length ≤ 4611686018427387904) (hl : limC l = 0) (hd : wi day 364 = true) (hv : wi level 16777216 = true) (hg : ∀ x ∈ fs, wi x 1073741824 = true) :
    PureCall Tryz.prog 73 [.sl τ 7 l.length (fl eCd l), .int .i64 day, .int .i64 level, .sl ρ 1 fs.length (fl eInt fs)] [] ⟨.int .i64 0, [], []⟩ := by
  refine pure_call mix Tryz.func73 fits73 rfl ?_
  conv => whnf
  refine ⟨_, fun _ => call62 _ l, ?_⟩
  conv => whnf
  rw [hl]
  refine ⟨?_, fun hc => (by cases hc), fun _ => ?_⟩
  · exact g0
  conv => whnf
  refine ⟨_, fun _ => call139 day, ?_⟩
  conv => whnf
  refine ⟨_, fun _ => call56 level 16777216, ?_⟩
  conv => whnf
  refine ⟨_, fun _ => call54f _ fs hn hg, ?_⟩
  conv => whnf
  rw [hd, hv]
  refine ⟨?_, fun hc => (by cases hc), fun _ => ?_⟩
  · exact g0
  conv => whnf
  refine ⟨?_, [], ?_⟩
  · exact g0
  conv => whnf
  refine ⟨rfl, ?_, trivial, trivial⟩
  all_goals repeat' (first | exact True.intro | refine leF_cons rfl ?_ ?_ | refine leS_cons rfl ?_ ?_ | (show PLe _ _ _ _; conv => whnf) | (show SLe _ _ _ _; conv => whnf) | (show PLeL _ _ _ _; conv => whnf) | apply And.intro | rfl | exact Nat.le_refl _ | exact fun _ _ => rfl | exact rowEq0 _ _)
theorem call73n (τ : Nat) (l : List Cd) (day level : Int) (hl : limC l = 0) (hd : wi day 364 = true) (hv : wi level 16777216 = true) :
    PureCall Tryz.prog 73 [.sl τ 7 l.length (fl eCd l), .int .i64 day, .int .i64 level, .nil 1] [] ⟨.int .i64 0, [], []⟩ := by
  refine PureCall.arg_le (call73 τ 0 l day level [] (Nat.zero_le _) hl hd hv (fun x hx => by cases hx)) rfl ?_
  exact ent
theorem call74 (l : List Cd) (day level : Int) (h20 : l.length < 20) (hl : limC l = 0) (hd : wi day 364 = true) (hv : wi level 16777216 = true) :
    PureCall Tryz.prog 74 [.sl 2 7 l.length (fl eCd l), .int .i64 day, .int .i64 level] [] ⟨.tup [.os 1000000000, .int .i64 0], [], [.row 1 3 1 (actF l day level).length (fl eInt (actF l day level))]⟩ := by
  refine pure_call mix Tryz.func74 fits74 rfl ?_
  conv => whnf
  refine ⟨_, fun _ => call73n _ l day level hl hd hv, ?_⟩
  conv => whnf
  refine ⟨?_, fun hc => (by cases hc), fun _ => ?_⟩
  · exact g0
  conv => whnf
  refine ⟨_, fun _ => call142 l h20, ?_⟩
  conv => whnf
  refine ⟨_, fun _ => call141 _ _ l (by omega) day level l.length (by omega) (ordF l) (ordF_in l), ?_⟩
  conv => whnf
  refine ⟨?_, [272], ?_⟩
  · exact g0
  conv => whnf
  refine ⟨rfl, ?_, trivial, ?_⟩
  all_goals repeat' (first | exact True.intro | refine leF_cons rfl ?_ ?_ | refine leS_cons rfl ?_ ?_ | (show PLe _ _ _ _; conv => whnf) | (show SLe _ _ _ _; conv => whnf) | (show PLeL _ _ _ _; conv => whnf) | apply And.intro | rfl | exact Nat.le_refl _ | exact fun _ _ => rfl | exact rowEq0 _ _)
  all_goals exact fun _ _ => rfl
def permF (c : Cd) (b : Int) : Int × Int :=
  if c.k = 1 then (c.v, 1073741824) else if c.k = 2 then (0, c.v) else if c.k = 3 then (0, min (b + c.v) 1073741824) else (max (b - c.v) 0, 1073741824)
set_option maxRecDepth 100000 in
theorem call145 (c : Cd) (b : Int) (hc : oneC c = 0) (hb : wi b 1073741824 = true) :
    PureCall Tryz.prog 145 [.agg (eCd c), .int .i64 b] [] ⟨.agg [.int .i64 (permF c b).1, .int .i64 (permF c b).2], [], []⟩ := by
  obtain ⟨h1, h2, h3⟩ := oneC_ok hc
  have hb2 := (wi_iff _ _).1 hb
  unfold badC at h3
  obtain ⟨r, k, v, f, u, a, z⟩ := c
  dsimp only at h1 h2 h3
  have hk : k = 1 ∨ k = 2 ∨ k = 3 ∨ k = 4 := by omega
  have hv : 0 ≤ v ∧ v ≤ 1073741824 := by
    refine Decidable.byContradiction fun h => h3 (.inl h)
  refine pure_call mix Tryz.func145 fits145 rfl ?_
  rcases hk with rfl | rfl | rfl | rfl
  · rw [show permF ⟨r, 1, v, f, u, a, z⟩ b = (v, 1073741824) by simp [permF]]
    conv => whnf
    refine ⟨?_, fun hc => absurd hc (by decide), fun _ => ?_⟩
    · exact g0
    conv => whnf
    refine ⟨?_, fun hc => absurd hc (by decide), fun _ => ?_⟩
    · exact g0
    conv => whnf
    refine ⟨?_, fun _ => ?_, fun hc => absurd hc (by decide)⟩
    · exact g0
    conv => whnf
    refine ⟨?_, [], ?_⟩
    · exact g0
    conv => whnf
    refine ⟨rfl, ?_, trivial, trivial⟩
    all_goals repeat' (first | exact True.intro | refine leF_cons rfl ?_ ?_ | refine leS_cons rfl ?_ ?_ | (show PLe _ _ _ _; conv => whnf) | (show SLe _ _ _ _; conv => whnf) | (show PLeL _ _ _ _; conv => whnf) | apply And.intro | rfl | exact Nat.le_refl _ | exact fun _ _ => rfl | exact rowEq0 _ _)
  · rw [show permF ⟨r, 2, v, f, u, a, z⟩ b = (0, v) by simp [permF]]
    conv => whnf
    refine ⟨?_, fun hc => absurd hc (by decide), fun _ => ?_⟩
    · exact g0
    conv => whnf
    refine ⟨?_, fun hc => absurd hc (by decide), fun _ => ?_⟩
    · exact g0
    conv => whnf
    refine ⟨?_, fun hc => absurd hc (by decide), fun _ => ?_⟩
    · exact g0
    conv => whnf
    refine ⟨?_, [], ?_⟩
    · exact g0
    conv => whnf
    refine ⟨rfl, ?_, trivial, trivial⟩
    all_goals repeat' (first | exact True.intro | refine leF_cons rfl ?_ ?_ | refine leS_cons rfl ?_ ?_ | (show PLe _ _ _ _; conv => whnf) | (show SLe _ _ _ _; conv => whnf) | (show PLeL _ _ _ _; conv => whnf) | apply And.intro | rfl | exact Nat.le_refl _ | exact fun _ _ => rfl | exact rowEq0 _ _)
  · rw [show permF ⟨r, 3, v, f, u, a, z⟩ b = (0, min (b + v) 1073741824) by simp [permF]]
    conv => whnf
    refine ⟨?_, fun hc => absurd hc (by decide), fun _ => ?_⟩
    · exact g0
    conv => whnf
    refine ⟨?_, fun _ => ?_, fun hc => absurd hc (by decide)⟩
    · exact g0
    conv => whnf
    refine ⟨?_, [], ?_⟩
    · exact g0
    conv => whnf
    refine ⟨rfl, ?_, trivial, trivial⟩
    all_goals repeat' (first | exact True.intro | refine leF_cons rfl ?_ ?_ | refine leS_cons rfl ?_ ?_ | (show PLe _ _ _ _; conv => whnf) | (show SLe _ _ _ _; conv => whnf) | (show PLeL _ _ _ _; conv => whnf) | apply And.intro | rfl | exact Nat.le_refl _ | exact fun _ _ => rfl | exact rowEq0 _ _)
    all_goals (dsimp only; split <;> omega)
  · rw [show permF ⟨r, 4, v, f, u, a, z⟩ b = (max (b - v) 0, 1073741824) by simp [permF]]
    conv => whnf
    refine ⟨?_, fun _ => ?_, fun hc => absurd hc (by decide)⟩
    · exact g0
    conv => whnf
    refine ⟨?_, [], ?_⟩
    · exact g0
    conv => whnf
    refine ⟨rfl, ?_, trivial, trivial⟩
    all_goals repeat' (first | exact True.intro | refine leF_cons rfl ?_ ?_ | refine leS_cons rfl ?_ ?_ | (show PLe _ _ _ _; conv => whnf) | (show SLe _ _ _ _; conv => whnf) | (show PLeL _ _ _ _; conv => whnf) | apply And.intro | rfl | exact Nat.le_refl _ | exact fun _ _ => rfl | exact rowEq0 _ _)
    all_goals (dsimp only; split <;> omega)
set_option maxRecDepth 100000 in
theorem call79 (c : Cd) (b : Int) (hc : oneC c = 0) (hb : wi b 1073741824 = true) :
    PureCall Tryz.prog 79 [.agg (eCd c), .int .i64 b] [] ⟨.tup [.agg [.int .i64 (permF c b).1, .int .i64 (permF c b).2], .bool true], [], []⟩ := by
  refine pure_call mix Tryz.func79 fits79 rfl ?_
  conv => whnf
  refine ⟨_, fun _ => call70 c, ?_⟩
  conv => whnf
  refine ⟨_, fun _ => call56 b 1073741824, ?_⟩
  conv => whnf
  rw [hc, hb]
  refine ⟨?_, fun hc => absurd hc (by decide), fun _ => ?_⟩
  · exact g0
  conv => whnf
  refine ⟨_, fun _ => call145 c b hc hb, ?_⟩
  conv => whnf
  refine ⟨?_, [], ?_⟩
  · exact g0
  conv => whnf
  refine ⟨rfl, ?_, trivial, trivial⟩
  all_goals repeat' (first | exact True.intro | refine leF_cons rfl ?_ ?_ | refine leS_cons rfl ?_ ?_ | (show PLe _ _ _ _; conv => whnf) | (show SLe _ _ _ _; conv => whnf) | (show PLeL _ _ _ _; conv => whnf) | apply And.intro | rfl | exact Nat.le_refl _ | exact fun _ _ => rfl | exact rowEq0 _ _)
def clampF (n lo hi : Int) : Int := max (min n hi) lo
theorem call138 (n lo hi : Int) : PureCall Tryz.prog 138 [.int .i64 n, .agg [.int .i64 lo, .int .i64 hi]] [] ⟨.int .i64 (clampF n lo hi), [], []⟩ := by
  refine pure_call mix Tryz.func138 fits138 rfl ?_
  conv => whnf
  refine ⟨?_, [], ?_⟩
  · exact g0
  conv => whnf
  refine ⟨rfl, ?_, trivial, trivial⟩
  all_goals repeat' (first | exact True.intro | refine leF_cons rfl ?_ ?_ | refine leS_cons rfl ?_ ?_ | (show PLe _ _ _ _; conv => whnf) | (show SLe _ _ _ _; conv => whnf) | (show PLeL _ _ _ _; conv => whnf) | apply And.intro | rfl | exact Nat.le_refl _ | exact fun _ _ => rfl | exact rowEq0 _ _)
  unfold clampF
  repeat' split
  all_goals omega
theorem rowL4 (a b c d : Int) : RowEq 4 (fun i => [[PV.int .i64 a], [PV.int .i64 b], [PV.int .i64 c], [PV.int .i64 d]].getD i []) (fl eInt [a, b, c, d]) := fun i hi => by
  match i, hi with
  | 0, _ => rfl
  | 1, _ => rfl
  | 2, _ => rfl
  | 3, _ => rfl
theorem call71 (τ : Nat) (l : List Cd) (day level before lo hi wanted : Int) (hl : limC l = 0) (hd : wi day 364 = true) (hv : wi level 16777216 = true) (h1 : wi before 1073741824 = true) (h2 : wi lo 1073741824 = true) (h3 : wi hi 1073741824 = true) (h4 : wi wanted 1073741824 = true) (h5 : lo ≤ hi) :
    PureCall Tryz.prog 71 [.sl τ 7 l.length (fl eCd l), .int .i64 day, .int .i64 level, .int .i64 before, .agg [.int .i64 lo, .int .i64 hi], .int .i64 wanted] [] ⟨.int .i64 0, [], []⟩ := by
  refine pure_call mix Tryz.func71 fits71 rfl ?_
  conv => whnf
  have hall : ∀ x ∈ [before, wanted, lo, hi], wi x 1073741824 = true := fun x hx => by
    simp only [List.mem_cons, List.not_mem_nil, or_false] at hx
    rcases hx with rfl | rfl | rfl | rfl <;> assumption
  refine ⟨_, fun _ => PureCall.arg_le (call73 (lendT τ) 2 l day level [before, wanted, lo, hi] (by simp) hl hd hv hall) rfl ?_, ?_⟩
  · have hr := rowL4 before wanted lo hi
    exact ent
  conv => whnf
  refine ⟨?_, fun hc => absurd hc (by decide), fun _ => ?_⟩
  · exact g0
  conv => whnf
  refine ⟨?_, fun hc => ?_, fun _ => ?_⟩
  · exact g0
  · simp only [bp] at hc; omega
  conv => whnf
  refine ⟨?_, [], ?_⟩
  · exact g0
  conv => whnf
  refine ⟨rfl, ?_, trivial, trivial⟩
  all_goals repeat' (first | exact True.intro | refine leF_cons rfl ?_ ?_ | refine leS_cons rfl ?_ ?_ | (show PLe _ _ _ _; conv => whnf) | (show SLe _ _ _ _; conv => whnf) | (show PLeL _ _ _ _; conv => whnf) | apply And.intro | rfl | exact Nat.le_refl _ | exact fun _ _ => rfl | exact rowEq0 _ _)
end Pv
end Go.Proofs.YtdcgnfkkklbckaaGreatDoor
/- TOP, THE WALKS: Choose. -/
set_option linter.unusedSimpArgs false
set_option linter.unusedVariables false
namespace Go.Proofs.YtdcgnfkkklbckaaGreatDoor
namespace Pv
def c72L1 : C := (.seq (.reg [⟨(some 42), 672, none, .bi false .lss (.t 41) (.t 40)⟩])
  (.seq (.cond (.t 42) .skip (.exit 0))
  (.seq (.block 1 (.seq (.reg [⟨(some 43), 688, none, .ia 1 (.t 39) (.t 41)⟩,
    ⟨(some 44), 704, none, .ld 1 false (.t 43)⟩,
    ⟨(some 20), 320, none, .mv (.t 44)⟩])
  (.seq (.reg [⟨(some 46), 736, none, .mv (.t 0)⟩,
    ⟨(some 47), 752, none, .mv (.t 20)⟩,
    ⟨(some 48), 768, none, .ia 7 (.t 46) (.t 47)⟩,
    ⟨(some 49), 784, none, .ld 7 true (.t 48)⟩,
    ⟨(some 50), 800, none, .mv (.t 3)⟩,
    ⟨(some 51), 816, none, .call (.c (.fn (.func 79) [] [])) [(.t 49), (.t 50)]⟩,
    ⟨(some 45), 720, none, .mv (.t 51)⟩,
    ⟨(some 52), 832, none, .ex (.t 45) 0⟩,
    ⟨(some 53), 848, none, .ex (.t 45) 1⟩,
    ⟨(some 21), 336, none, .al [(.int .i64 0), (.int .i64 0)]⟩,
    ⟨none, 0, none, .st 2 (.t 21) (.t 52)⟩,
    ⟨(some 22), 352, none, .mv (.t 53)⟩])
  (.seq (.block 2 (.seq (.reg [⟨(some 55), 880, none, .fa 1 (.t 21)⟩,
    ⟨(some 56), 896, none, .ld 1 false (.t 55)⟩,
    ⟨(some 57), 912, none, .fa 0 (.t 13)⟩,
    ⟨(some 58), 928, none, .ld 1 false (.t 57)⟩,
    ⟨(some 59), 944, none, .bi false .lss (.t 56) (.t 58)⟩,
    ⟨(some 54), 864, none, .mv (.t 59)⟩])
  (.cond (.t 54) (.seq (.reg [⟨(some 60), 960, none, .mv (.t 15)⟩,
    ⟨(some 61), 976, none, .mv (.t 20)⟩,
    ⟨(some 62), 992, none, .fa 1 (.t 13)⟩,
    ⟨(some 63), 1008, none, .ld 1 false (.t 62)⟩,
    ⟨(some 64), 1024, none, .bd [(.int .i64 0), (.int .i64 0)] [(0, 1, (.t 61)), (1, 1, (.t 63))]⟩,
    ⟨(some 65), 1040, none, .bs 85 2 [(.t 64)]⟩,
    ⟨(some 66), 1056, none, .app 85 2 16 (.t 60) (.t 65)⟩,
    ⟨(some 15), 240, none, .mv (.t 66)⟩])
  (.exit 1)) (.seq (.reg [⟨(some 68), 1088, none, .fa 0 (.t 21)⟩,
    ⟨(some 69), 1104, none, .ld 1 false (.t 68)⟩,
    ⟨(some 70), 1120, none, .fa 0 (.t 14)⟩,
    ⟨(some 71), 1136, none, .ld 1 false (.t 70)⟩,
    ⟨(some 72), 1152, none, .bi false .gtr (.t 69) (.t 71)⟩,
    ⟨(some 67), 1072, none, .mv (.t 72)⟩])
  (.cond (.t 67) (.seq (.reg [⟨(some 73), 1168, none, .mv (.t 16)⟩,
    ⟨(some 74), 1184, none, .mv (.t 73)⟩,
    ⟨(some 75), 1200, (some (74, false)), .mv (.t 15)⟩,
    ⟨(some 76), 1216, (some (74, false)), .len (.t 75)⟩,
    ⟨(some 77), 1232, (some (74, false)), .bi false .eql (.t 76) (.c (.int .i64 0))⟩,
    ⟨(some 78), 1248, none, .pick (.t 74) (.c (.bool true)) (.t 77)⟩,
    ⟨(some 16), 256, none, .mv (.t 78)⟩])
  (.seq (.reg [⟨(some 79), 1264, none, .mv (.t 15)⟩,
    ⟨(some 80), 1280, none, .mv (.t 20)⟩,
    ⟨(some 81), 1296, none, .fa 1 (.t 14)⟩,
    ⟨(some 82), 1312, none, .ld 1 false (.t 81)⟩,
    ⟨(some 83), 1328, none, .bd [(.int .i64 0), (.int .i64 0)] [(0, 1, (.t 80)), (1, 1, (.t 82))]⟩,
    ⟨(some 84), 1344, none, .bs 85 2 [(.t 83)]⟩,
    ⟨(some 85), 1360, none, .app 85 2 16 (.t 79) (.t 84)⟩,
    ⟨(some 15), 240, none, .mv (.t 85)⟩])
  (.exit 1))) .skip)))))
  (.seq (.seq (.reg [⟨(some 86), 1376, none, .fa 0 (.t 21)⟩,
    ⟨(some 87), 1392, none, .ld 1 false (.t 86)⟩,
    ⟨(some 88), 1408, none, .fa 0 (.t 13)⟩,
    ⟨(some 89), 1424, none, .ld 1 false (.t 88)⟩,
    ⟨(some 90), 1440, none, .mx [(.t 87), (.t 89)]⟩,
    ⟨(some 91), 1456, none, .mv (.t 20)⟩,
    ⟨(some 92), 1472, none, .bd [(.int .i64 0), (.int .i64 0)] [(0, 1, (.t 90)), (1, 1, (.t 91))]⟩,
    ⟨(some 23), 368, none, .al [(.int .i64 0), (.int .i64 0)]⟩,
    ⟨none, 0, none, .st 2 (.t 23) (.t 92)⟩])
  (.seq (.reg [⟨(some 93), 1488, none, .ld 2 true (.t 23)⟩,
    ⟨(some 94), 1504, none, .fa 0 (.t 13)⟩,
    ⟨(some 95), 1520, none, .ld 1 false (.t 94)⟩,
    ⟨(some 96), 1536, none, .mv (.t 20)⟩,
    ⟨(some 97), 1552, none, .bd [(.int .i64 0), (.int .i64 0)] [(0, 1, (.t 95)), (1, 1, (.t 96))]⟩,
    ⟨(some 98), 1568, none, .eqa true [0, 0] (.t 93) (.t 97)⟩])
  (.cond (.t 98) (.reg [⟨(some 99), 1584, none, .ld 2 true (.t 23)⟩,
    ⟨none, 0, none, .st 2 (.t 13) (.t 99)⟩]) .skip)))
  (.seq (.reg [⟨(some 100), 1600, none, .fa 1 (.t 21)⟩,
    ⟨(some 101), 1616, none, .ld 1 false (.t 100)⟩,
    ⟨(some 102), 1632, none, .fa 0 (.t 14)⟩,
    ⟨(some 103), 1648, none, .ld 1 false (.t 102)⟩,
    ⟨(some 104), 1664, none, .mn [(.t 101), (.t 103)]⟩,
    ⟨(some 105), 1680, none, .mv (.t 20)⟩,
    ⟨(some 106), 1696, none, .bd [(.int .i64 0), (.int .i64 0)] [(0, 1, (.t 104)), (1, 1, (.t 105))]⟩,
    ⟨(some 24), 384, none, .al [(.int .i64 0), (.int .i64 0)]⟩,
    ⟨none, 0, none, .st 2 (.t 24) (.t 106)⟩])
  (.seq (.reg [⟨(some 107), 1712, none, .ld 2 true (.t 24)⟩,
    ⟨(some 108), 1728, none, .fa 0 (.t 14)⟩,
    ⟨(some 109), 1744, none, .ld 1 false (.t 108)⟩,
    ⟨(some 110), 1760, none, .mv (.t 20)⟩,
    ⟨(some 111), 1776, none, .bd [(.int .i64 0), (.int .i64 0)] [(0, 1, (.t 109)), (1, 1, (.t 110))]⟩,
    ⟨(some 112), 1792, none, .eqa true [0, 0] (.t 107) (.t 111)⟩])
  (.cond (.t 112) (.reg [⟨(some 113), 1808, none, .ld 2 true (.t 24)⟩,
    ⟨none, 0, none, .st 2 (.t 14) (.t 113)⟩]) .skip))))))))
  (.reg [⟨(some 114), 1824, none, .bi false .add (.t 41) (.c (.int .i64 1))⟩,
    ⟨(some 41), 656, none, .mv (.t 114)⟩]))))
def c72 : C := (.seq (.reg [⟨(some 10), 160, none, .bx 2 (.t 4)⟩,
    ⟨(some 12), 192, none, .al [(.int .i64 0), (.int .i64 0), (.int .i64 0), (.nil 2)]⟩])
  (.seq (.drw [⟨(some 26), 416, none, .fa 0 (.t 10)⟩,
    ⟨(some 27), 432, none, .ld 1 false (.t 26)⟩,
    ⟨(some 28), 448, none, .bd [(.int .i64 0), (.int .i64 0)] [(0, 1, (.t 27)), (1, 1, (.c (.int .i64 (-1))))]⟩,
    ⟨(some 29), 464, none, .fa 1 (.t 10)⟩,
    ⟨(some 30), 480, none, .ld 1 false (.t 29)⟩,
    ⟨(some 31), 496, none, .bd [(.int .i64 0), (.int .i64 0)] [(0, 1, (.t 30)), (1, 1, (.c (.int .i64 (-1))))]⟩,
    ⟨(some 13), 208, none, .al [(.int .i64 0), (.int .i64 0)]⟩,
    ⟨(some 14), 224, none, .al [(.int .i64 0), (.int .i64 0)]⟩,
    ⟨none, 0, none, .st 2 (.t 13) (.t 28)⟩,
    ⟨none, 0, none, .st 2 (.t 14) (.t 31)⟩]
    [(0, 3, 26), (0, 4, 26), (0, 5, 26), (0, 6, 26), (0, 7, 26), (1, 3, 27), (1, 4, 27), (1, 5, 27), (1, 6, 27), (1, 7, 27), (2, 3, 28), (2, 4, 28), (2, 5, 28), (2, 6, 28), (2, 7, 28), (3, 6, 29), (3, 7, 29), (3, 8, 29), (4, 6, 30), (4, 7, 30), (4, 8, 30), (5, 6, 31), (5, 7, 31), (5, 8, 31), (6, 7, 13)])
  (.seq (.reg [⟨(some 15), 240, none, .mv (.c (.nil 2))⟩])
  (.seq (.reg [⟨(some 16), 256, none, .mv (.c (.bool false))⟩])
  (.seq (.reg [⟨(some 33), 528, none, .mv (.t 0)⟩,
    ⟨(some 34), 544, none, .mv (.t 1)⟩,
    ⟨(some 35), 560, none, .mv (.t 2)⟩,
    ⟨(some 36), 576, none, .call (.c (.fn (.func 74) [] [])) [(.t 33), (.t 34), (.t 35)]⟩,
    ⟨(some 32), 512, none, .mv (.t 36)⟩,
    ⟨(some 37), 592, none, .ex (.t 32) 0⟩,
    ⟨(some 38), 608, none, .ex (.t 32) 1⟩,
    ⟨(some 17), 272, none, .mv (.t 37)⟩,
    ⟨(some 18), 288, none, .mv (.t 38)⟩])
  (.seq (.seq (.reg [⟨(some 39), 624, none, .mv (.t 17)⟩,
    ⟨(some 40), 640, none, .len (.t 39)⟩,
    ⟨(some 41), 656, none, .mv (.c (.int .i64 0))⟩])
  (.block 0 (.loop c72L1)))
  (.seq (.reg [⟨(some 115), 1840, none, .fa 0 (.t 13)⟩,
    ⟨(some 116), 1856, none, .ld 1 false (.t 115)⟩,
    ⟨(some 117), 1872, none, .fa 0 (.t 14)⟩,
    ⟨(some 118), 1888, none, .ld 1 false (.t 117)⟩,
    ⟨(some 119), 1904, none, .bd [(.int .i64 0), (.int .i64 0)] [(0, 1, (.t 116)), (1, 1, (.t 118))]⟩,
    ⟨(some 120), 1920, none, .mv (.t 15)⟩,
    ⟨(some 121), 1936, none, .bd [(.int .i64 0), (.int .i64 0), (.int .i64 0), (.nil 2)] [(1, 2, (.t 119)), (3, 1, (.t 120))]⟩,
    ⟨(some 25), 400, none, .al [(.int .i64 0), (.int .i64 0), (.int .i64 0), (.nil 2)]⟩,
    ⟨none, 0, none, .st 4 (.t 25) (.t 121)⟩])
  (.seq (.block 3 (.seq (.reg [⟨(some 127), 2032, none, .mv (.t 15)⟩,
    ⟨(some 128), 2048, none, .len (.t 127)⟩,
    ⟨(some 129), 2064, none, .bi false .eql (.t 128) (.c (.int .i64 0))⟩,
    ⟨(some 126), 2016, none, .mv (.t 129)⟩])
  (.cond (.t 126) (.reg [⟨(some 130), 2080, none, .mv (.t 5)⟩,
    ⟨(some 131), 2096, none, .fa 1 (.t 25)⟩,
    ⟨(some 132), 2112, none, .ld 2 true (.t 131)⟩,
    ⟨(some 133), 2128, none, .call (.c (.fn (.func 138) [] [])) [(.t 130), (.t 132)]⟩,
    ⟨(some 134), 2144, none, .fa 0 (.t 25)⟩,
    ⟨none, 0, none, .st 1 (.t 134) (.t 133)⟩]) (.seq (.reg [⟨(some 136), 2176, none, .mv (.t 16)⟩,
    ⟨(some 135), 2160, none, .mv (.t 136)⟩])
  (.cond (.t 135) (.reg [⟨(some 137), 2192, none, .fa 1 (.t 25)⟩,
    ⟨(some 138), 2208, none, .fa 1 (.t 137)⟩,
    ⟨(some 139), 2224, none, .ld 1 false (.t 138)⟩,
    ⟨(some 140), 2240, none, .fa 0 (.t 25)⟩,
    ⟨none, 0, none, .st 1 (.t 140) (.t 139)⟩]) (.reg [⟨(some 122), 1952, none, .fa 1 (.t 25)⟩,
    ⟨(some 123), 1968, none, .fa 0 (.t 122)⟩,
    ⟨(some 124), 1984, none, .ld 1 false (.t 123)⟩,
    ⟨(some 125), 2000, none, .fa 0 (.t 25)⟩,
    ⟨none, 0, none, .st 1 (.t 125) (.t 124)⟩]))))))
  (.seq (.reg [⟨(some 141), 2256, none, .ld 4 true (.t 25)⟩,
    ⟨none, 0, none, .st 4 (.t 12) (.t 141)⟩])
  .ret)))))))))
theorem fits72 : fits Tryz.prog false Tryz.f72 6 142 [(12, some (4, true))] = some c72.er := by kernel_rfl
def c22 : C := (.seq (.reg [⟨(some 10), 160, none, .bx 2 (.t 4)⟩,
    ⟨(some 12), 192, none, .al [(.int .i64 0), (.int .i64 0), (.int .i64 0), (.nil 2)]⟩,
    ⟨(some 13), 208, none, .mv (.c (.int .i64 0))⟩])
  (.seq (.seq (.reg [⟨(some 15), 240, none, .mv (.t 0)⟩,
    ⟨(some 16), 256, none, .mv (.t 1)⟩,
    ⟨(some 17), 272, none, .mv (.t 2)⟩,
    ⟨(some 18), 288, none, .mv (.t 3)⟩,
    ⟨(some 19), 304, none, .ld 2 true (.t 10)⟩,
    ⟨(some 20), 320, none, .mv (.t 5)⟩,
    ⟨(some 21), 336, none, .call (.c (.fn (.func 71) [] [])) [(.t 15), (.t 16), (.t 17), (.t 18), (.t 19), (.t 20)]⟩,
    ⟨(some 14), 224, none, .mv (.t 21)⟩])
  (.seq (.reg [⟨(some 22), 352, none, .mv (.t 14)⟩,
    ⟨(some 23), 368, none, .bi false .neq (.t 22) (.c (.int .i64 0))⟩])
  (.cond (.t 23) (.seq (.reg [⟨(some 24), 384, none, .bd [(.int .i64 0), (.int .i64 0), (.int .i64 0), (.nil 2)] []⟩,
    ⟨(some 25), 400, none, .mv (.t 14)⟩,
    ⟨none, 0, none, .st 4 (.t 12) (.t 24)⟩,
    ⟨(some 13), 208, none, .mv (.t 25)⟩])
  .ret) .skip)))
  (.seq (.reg [⟨(some 26), 416, none, .mv (.t 0)⟩,
    ⟨(some 27), 432, none, .mv (.t 1)⟩,
    ⟨(some 28), 448, none, .mv (.t 2)⟩,
    ⟨(some 29), 464, none, .mv (.t 3)⟩,
    ⟨(some 30), 480, none, .ld 2 true (.t 10)⟩,
    ⟨(some 31), 496, none, .mv (.t 5)⟩,
    ⟨(some 32), 512, none, .call (.c (.fn (.func 72) [] [])) [(.t 26), (.t 27), (.t 28), (.t 29), (.t 30), (.t 31)]⟩,
    ⟨none, 0, none, .st 4 (.t 12) (.t 32)⟩,
    ⟨(some 13), 208, none, .mv (.c (.int .i64 0))⟩])
  .ret)))
theorem fits22 : fits Tryz.prog false Tryz.f22 6 33 [(12, some (4, true)), (13, none)] = some c22.er := by kernel_rfl
structure Cho where
  lo : Int
  lb : Int
  hi : Int
  hb : Int
  up : Bool
  ys : List (Int × Int)
def eYd (y : Int × Int) : List PV := [.int .i64 y.1, .int .i64 y.2]
def choS (l : List Cd) (b : Int) (s : Cho) (i : Int) : Cho :=
  if (permF (l.getD i.toNat default) b).2 < s.lo then { s with ys := s.ys ++ [(i, s.lb)] }
  else if s.hi < (permF (l.getD i.toNat default) b).1 then { s with up := (bif s.up then true else decide ((s.ys.length : Int) = 0)), ys := s.ys ++ [(i, s.hb)] }
  else { lo := if s.lo < (permF (l.getD i.toNat default) b).1 then (permF (l.getD i.toNat default) b).1 else s.lo, lb := if s.lo < (permF (l.getD i.toNat default) b).1 then i else s.lb,
         hi := if (permF (l.getD i.toNat default) b).2 < s.hi then (permF (l.getD i.toNat default) b).2 else s.hi, hb := if (permF (l.getD i.toNat default) b).2 < s.hi then i else s.hb, up := s.up, ys := s.ys }
def choN (l : List Cd) (b lo hi : Int) (act : List Int) : Nat → Cho
  | 0 => ⟨lo, -1, hi, -1, false, []⟩
  | n + 1 => choS l b (choN l b lo hi act n) (act.getD n default)
def choL (l : List Cd) (day level b lo hi : Int) : Cho := choN l b lo hi (actF l day level) (actF l day level).length
def relF (s : Cho) (wanted : Int) : Int := if s.ys.length = 0 then clampF wanted s.lo s.hi else if s.up = true then s.hi else s.lo
set_option maxRecDepth 100000 in
set_option maxHeartbeats 4000000 in
theorem call72 (l : List Cd) (day level before lo hi wanted : Int) (h20 : l.length < 20) (hl : limC l = 0) (hd : wi day 364 = true) (hv : wi level 16777216 = true) (h1 : wi before 1073741824 = true) :
    PureCall Tryz.prog 72 [.sl 2 7 l.length (fl eCd l), .int .i64 day, .int .i64 level, .int .i64 before, .agg [.int .i64 lo, .int .i64 hi], .int .i64 wanted] []
      ⟨.agg [.int .i64 (relF (choL l day level before lo hi) wanted), .int .i64 (choL l day level before lo hi).lo, .int .i64 (choL l day level before lo hi).hi, .sl 0 2 (choL l day level before lo hi).ys.length (fl eYd (choL l day level before lo hi).ys)], [], []⟩ := by
  refine pure_call mix Tryz.func72 fits72 rfl ?_
  conv => whnf
  refine ⟨rfl, ?_⟩
  conv => whnf
  refine ⟨_, fun _ => call74 l day level h20 hl hd hv, ?_⟩
  conv => whnf
  refine ⟨?_, ?_⟩
  · exact g0
  refine LSem.adopt 15 1000000 85 2 2 rfl rfl ?_
  obtain ⟨act, hact⟩ : ∃ act, act = actF l day level := ⟨_, rfl⟩
  have hain : ∀ k, k < act.length → (0 ≤ act.getD k default ∧ act.getD k default < l.length) ∧ oneC (l.getD (act.getD k default).toNat default) = 0 := fun k hk => by
    have hm : act.getD k default ∈ act := by
      rw [List.getD_eq_getElem?_getD, List.getElem?_eq_getElem hk]; exact List.getElem_mem hk
    rw [hact] at hm
    obtain ⟨j, hj, hx, hp⟩ := keepN_mem _ _ hm
    rw [← hact] at hx hp
    refine ⟨by rw [hx]; exact ordF_in l j hj, ?_⟩
    unfold goneB applB at hp
    refine Decidable.byContradiction fun hne => ?_
    rw [decide_eq_false hne] at hp
    simp at hp
  have hal : act.length ≤ l.length := by rw [hact]; exact keepN_len _
  have hcho : choL l day level before lo hi = choN l before lo hi act act.length := by rw [hact]; rfl
  rw [hcho, ← hact]
  clear hcho hact
  refine LSem.loop (n := 142) mix (α := Nat) (fun i => i ≤ act.length ∧ (choN l before lo hi act i).ys.length ≤ i)
    (fun i => [(0, .sl 2 7 l.length (fl eCd l)), (3, .int .i64 before), (5, .int .i64 wanted), (12, .pt 192 0 0), (13, .pt 208 0 0), (14, .pt 224 0 0), (15, .os 1000000), (16, .bool (choN l before lo hi act i).up), (39, .os 576), (40, .int .i64 act.length), (41, .int .i64 i)])
    (fun i => [(192, .box [.int .i64 0, .int .i64 0, .int .i64 0, .nil 2]), (208, .box [.int .i64 (choN l before lo hi act i).lo, .int .i64 (choN l before lo hi act i).lb]), (224, .box [.int .i64 (choN l before lo hi act i).hi, .int .i64 (choN l before lo hi act i).hb]),
      (576, .row 1 3 1 act.length (fl eInt act)), (1000000, .row 0 85 2 (choN l before lo hi act i).ys.length (fl eYd (choN l before lo hi act i).ys))]) (fun i => act.length - i) 0 ?_ ?_ ?_
  · exact ⟨Nat.zero_le _, Nat.le_refl _⟩
  · refine ⟨rfl, rfl, ?_, ?_⟩
    all_goals repeat' (first | exact True.intro | refine leF_cons rfl ?_ ?_ | refine leS_cons rfl ?_ ?_ | (show PLe _ _ _ _; conv => whnf) | (show SLe _ _ _ _; conv => whnf) | (show PLeL _ _ _ _; conv => whnf) | apply And.intro | rfl | exact Nat.le_refl _ | exact fun _ _ => rfl | exact rowEq0 _ _)
  · rintro i ⟨hile, hys⟩
    have hj : ((i : Int)).toNat = i := by omega
    conv => whnf
    refine ⟨trivial, fun hc => ?_, fun hc => ?_⟩
    · replace hc := of_decide_eq_true hc
      have hlt : i < act.length := by omega
      obtain ⟨⟨ha1, ha2⟩, hone⟩ := hain i hlt
      have hst : choN l before lo hi act (i + 1) = choS l before (choN l before lo hi act i) (act.getD i default) := rfl
      obtain ⟨s, hs⟩ : ∃ s, s = choN l before lo hi act i := ⟨_, rfl⟩
      obtain ⟨a, haa⟩ : ∃ a, a = act.getD i default := ⟨_, rfl⟩
      rw [← hs, ← haa] at hst
      conv => whnf
      refine ⟨_, fun _ => call79 (l.getD (act.getD ((i : Int)).toNat default).toNat default) before (by rw [hj]; exact hone) h1, ?_⟩
      rw [hj, ← hs, ← haa]
      rw [← hs] at hys
      obtain ⟨pl, hpl⟩ : ∃ x, x = (permF (l.getD a.toNat default) before).1 := ⟨_, rfl⟩
      obtain ⟨pm, hpm⟩ : ∃ x, x = (permF (l.getD a.toNat default) before).2 := ⟨_, rfl⟩
      unfold choS at hst
      rw [← hpl, ← hpm] at hst ⊢
      conv => whnf
      refine ⟨?_, fun hA => ?_, fun hA => ?_⟩
      · exact g0
      · replace hA := of_decide_eq_true hA
        rw [if_pos hA] at hst
        conv => whnf
        refine ⟨?_, i + 1, ⟨hlt, ?_⟩, ?_, rfl, rfl, ?_, ?_⟩
        · exact g0
        · rw [hst]; simp; exact hys
        · omega
        all_goals repeat' (first | exact True.intro | refine leF_cons rfl ?_ ?_ | refine leS_cons rfl ?_ ?_ | (show PLe _ _ _ _; conv => whnf) | (show SLe _ _ _ _; conv => whnf) | (show PLeL _ _ _ _; conv => whnf) | apply And.intro | rfl | exact Nat.le_refl _ | exact fun _ _ => rfl | exact rowEq0 _ _)
        all_goals first | (rw [hst]; done) | (rw [hst]; simp; done) | (rw [hst]; exact fl_push eYd s.ys (a, s.lb)) | skip
      · replace hA := of_decide_eq_false hA
        rw [if_neg hA] at hst
        conv => whnf
        refine ⟨?_, fun hB => ?_, fun hB => ?_⟩
        · exact g0
        · replace hB := of_decide_eq_true hB
          rw [if_pos hB] at hst
          conv => whnf
          refine ⟨?_, i + 1, ⟨hlt, ?_⟩, ?_, rfl, rfl, ?_, ?_⟩
          · exact g0
          · rw [hst]; simp; exact hys
          · omega
          all_goals repeat' (first | exact True.intro | refine leF_cons rfl ?_ ?_ | refine leS_cons rfl ?_ ?_ | (show PLe _ _ _ _; conv => whnf) | (show SLe _ _ _ _; conv => whnf) | (show PLeL _ _ _ _; conv => whnf) | apply And.intro | rfl | exact Nat.le_refl _ | exact fun _ _ => rfl | exact rowEq0 _ _)
          all_goals first | (rw [hst]; done) | (rw [hst]; simp; done) | (rw [hst]; exact fl_push eYd s.ys (a, s.hb)) | (rw [hst]; rfl) | skip
        · replace hB := of_decide_eq_false hB
          rw [if_neg hB] at hst
          conv => whnf
          refine ⟨?_, fun hC => ?_, fun hC => ?_⟩
          · exact g0
          · have hC' : s.lo < pl := by
              simp at hC
              omega
            conv => whnf
            refine ⟨?_, fun hD => ?_, fun hD => ?_⟩
            · exact g0
            · have hD' : pm < s.hi := by
                simp at hD
                omega
              conv => whnf
              refine ⟨?_, i + 1, ⟨hlt, ?_⟩, ?_, rfl, rfl, ?_, ?_⟩
              · exact g0
              · rw [hst]; dsimp only; omega
              · omega
              all_goals repeat' (first | exact True.intro | refine leF_cons rfl ?_ ?_ | refine leS_cons rfl ?_ ?_ | (show PLe _ _ _ _; conv => whnf) | (show SLe _ _ _ _; conv => whnf) | (show PLeL _ _ _ _; conv => whnf) | apply And.intro | rfl | exact Nat.le_refl _ | exact fun _ _ => rfl | exact rowEq0 _ _)
              all_goals first | (rw [hst]; done) | (rw [hst]; exact fun _ _ => rfl) | (rw [hst]; dsimp only; (repeat' split) <;> omega) | skip
            · have hD' : ¬ pm < s.hi := by
                simp at hD
                omega
              conv => whnf
              refine ⟨?_, i + 1, ⟨hlt, ?_⟩, ?_, rfl, rfl, ?_, ?_⟩
              · exact g0
              · rw [hst]; dsimp only; omega
              · omega
              all_goals repeat' (first | exact True.intro | refine leF_cons rfl ?_ ?_ | refine leS_cons rfl ?_ ?_ | (show PLe _ _ _ _; conv => whnf) | (show SLe _ _ _ _; conv => whnf) | (show PLeL _ _ _ _; conv => whnf) | apply And.intro | rfl | exact Nat.le_refl _ | exact fun _ _ => rfl | exact rowEq0 _ _)
              all_goals first | (rw [hst]; done) | (rw [hst]; exact fun _ _ => rfl) | (rw [hst]; dsimp only; (repeat' split) <;> omega) | skip
          · have hC' : ¬ s.lo < pl := by
              simp at hC
              omega
            conv => whnf
            refine ⟨?_, fun hD => ?_, fun hD => ?_⟩
            · exact g0
            · have hD' : pm < s.hi := by
                simp at hD
                omega
              conv => whnf
              refine ⟨?_, i + 1, ⟨hlt, ?_⟩, ?_, rfl, rfl, ?_, ?_⟩
              · exact g0
              · rw [hst]; dsimp only; omega
              · omega
              all_goals repeat' (first | exact True.intro | refine leF_cons rfl ?_ ?_ | refine leS_cons rfl ?_ ?_ | (show PLe _ _ _ _; conv => whnf) | (show SLe _ _ _ _; conv => whnf) | (show PLeL _ _ _ _; conv => whnf) | apply And.intro | rfl | exact Nat.le_refl _ | exact fun _ _ => rfl | exact rowEq0 _ _)
              all_goals first | (rw [hst]; done) | (rw [hst]; exact fun _ _ => rfl) | (rw [hst]; dsimp only; (repeat' split) <;> omega) | skip
            · have hD' : ¬ pm < s.hi := by
                simp at hD
                omega
              conv => whnf
              refine ⟨?_, i + 1, ⟨hlt, ?_⟩, ?_, rfl, rfl, ?_, ?_⟩
              · exact g0
              · rw [hst]; dsimp only; omega
              · omega
              all_goals repeat' (first | exact True.intro | refine leF_cons rfl ?_ ?_ | refine leS_cons rfl ?_ ?_ | (show PLe _ _ _ _; conv => whnf) | (show SLe _ _ _ _; conv => whnf) | (show PLeL _ _ _ _; conv => whnf) | apply And.intro | rfl | exact Nat.le_refl _ | exact fun _ _ => rfl | exact rowEq0 _ _)
              all_goals first | (rw [hst]; done) | (rw [hst]; exact fun _ _ => rfl) | (rw [hst]; dsimp only; (repeat' split) <;> omega) | skip
    · replace hc := of_decide_eq_false hc
      have : i = act.length := by omega
      subst this
      obtain ⟨s, hs⟩ : ∃ s, s = choN l before lo hi act act.length := ⟨_, rfl⟩
      rw [← hs] at hys ⊢
      conv => whnf
      refine ⟨trivial, fun hE => ?_, fun hE => ?_⟩
      · simp only [bp] at hE
        rw [show relF s wanted = clampF wanted s.lo s.hi from if_pos (by omega)]
        conv => whnf
        refine ⟨_, fun _ => call138 wanted s.lo s.hi, ?_⟩
        conv => whnf
        refine ⟨?_, [], ?_⟩
        · exact g0
        conv => whnf
        refine ⟨rfl, ?_, trivial, trivial⟩
        all_goals repeat' (first | exact True.intro | refine leF_cons rfl ?_ ?_ | refine leS_cons rfl ?_ ?_ | (show PLe _ _ _ _; conv => whnf) | (show SLe _ _ _ _; conv => whnf) | (show PLeL _ _ _ _; conv => whnf) | apply And.intro | rfl | exact Nat.le_refl _ | exact fun _ _ => rfl | exact rowEq0 _ _)
      · simp only [bp] at hE
        have h0 : relF s wanted = if s.up = true then s.hi else s.lo := if_neg (by omega)
        rw [h0]
        conv => whnf
        refine ⟨trivial, fun hF => ?_, fun hF => ?_⟩
        · rw [if_pos hF]
          conv => whnf
          refine ⟨?_, [], ?_⟩
          · exact g0
          conv => whnf
          refine ⟨rfl, ?_, trivial, trivial⟩
          all_goals repeat' (first | exact True.intro | refine leF_cons rfl ?_ ?_ | refine leS_cons rfl ?_ ?_ | (show PLe _ _ _ _; conv => whnf) | (show SLe _ _ _ _; conv => whnf) | (show PLeL _ _ _ _; conv => whnf) | apply And.intro | rfl | exact Nat.le_refl _ | exact fun _ _ => rfl | exact rowEq0 _ _)
        · rw [if_neg (by rw [hF]; decide)]
          conv => whnf
          refine ⟨?_, [], ?_⟩
          · exact g0
          conv => whnf
          refine ⟨rfl, ?_, trivial, trivial⟩
          all_goals repeat' (first | exact True.intro | refine leF_cons rfl ?_ ?_ | refine leS_cons rfl ?_ ?_ | (show PLe _ _ _ _; conv => whnf) | (show SLe _ _ _ _; conv => whnf) | (show PLeL _ _ _ _; conv => whnf) | apply And.intro | rfl | exact Nat.le_refl _ | exact fun _ _ => rfl | exact rowEq0 _ _)
theorem call22 (l : List Cd) (day level before lo hi wanted : Int) (h20 : l.length < 20) (hl : limC l = 0) (hd : wi day 364 = true) (hv : wi level 16777216 = true) (h1 : wi before 1073741824 = true) (h2 : wi lo 1073741824 = true) (h3 : wi hi 1073741824 = true) (h4 : wi wanted 1073741824 = true) (h5 : lo ≤ hi) :
    PureCall Tryz.prog 22 [.sl 2 7 l.length (fl eCd l), .int .i64 day, .int .i64 level, .int .i64 before, .agg [.int .i64 lo, .int .i64 hi], .int .i64 wanted] []
      ⟨.tup [.agg [.int .i64 (relF (choL l day level before lo hi) wanted), .int .i64 (choL l day level before lo hi).lo, .int .i64 (choL l day level before lo hi).hi, .sl 0 2 (choL l day level before lo hi).ys.length (fl eYd (choL l day level before lo hi).ys)], .int .i64 0], [], []⟩ := by
  refine pure_call mix Tryz.func22 fits22 rfl ?_
  conv => whnf
  refine ⟨_, fun _ => call71 2 l day level before lo hi wanted hl hd hv h1 h2 h3 h4 h5, ?_⟩
  conv => whnf
  refine ⟨?_, fun hc => absurd hc (by decide), fun _ => ?_⟩
  · exact g0
  conv => whnf
  refine ⟨_, fun _ => call72 l day level before lo hi wanted h20 hl hd hv h1, ?_⟩
  conv => whnf
  refine ⟨?_, [], ?_⟩
  · exact g0
  conv => whnf
  refine ⟨rfl, ?_, trivial, trivial⟩
  all_goals repeat' (first | exact True.intro | refine leF_cons rfl ?_ ?_ | refine leS_cons rfl ?_ ?_ | (show PLe _ _ _ _; conv => whnf) | (show SLe _ _ _ _; conv => whnf) | (show PLeL _ _ _ _; conv => whnf) | apply And.intro | rfl | exact Nat.le_refl _ | exact fun _ _ => rfl | exact rowEq0 _ _)
end Pv
end Go.Proofs.YtdcgnfkkklbckaaGreatDoor
/- TOP, THE WALKS: what a release keeps; lists looked through; bounds apart. -/
set_option linter.unusedSimpArgs false
set_option linter.unusedVariables false
namespace Go.Proofs.YtdcgnfkkklbckaaGreatDoor
namespace Pv
def c75 : C := (.seq (.reg [⟨(some 3), 48, none, .bx 7 (.t 0)⟩,
    ⟨(some 6), 96, none, .mv (.c (.bool false))⟩])
  (.seq (.reg [⟨(some 8), 128, none, .ld 7 true (.t 3)⟩,
    ⟨(some 9), 144, none, .mv (.t 1)⟩,
    ⟨(some 10), 160, none, .call (.c (.fn (.func 145) [] [])) [(.t 8), (.t 9)]⟩,
    ⟨(some 7), 112, none, .al [(.int .i64 0), (.int .i64 0)]⟩,
    ⟨none, 0, none, .st 2 (.t 7) (.t 10)⟩])
  (.seq (.reg [⟨(some 11), 176, none, .mv (.t 2)⟩,
    ⟨(some 12), 192, none, .fa 0 (.t 7)⟩,
    ⟨(some 13), 208, none, .ld 1 false (.t 12)⟩,
    ⟨(some 14), 224, none, .bi false .geq (.t 11) (.t 13)⟩,
    ⟨(some 15), 240, none, .mv (.t 14)⟩,
    ⟨(some 16), 256, (some (15, true)), .mv (.t 2)⟩,
    ⟨(some 17), 272, (some (15, true)), .fa 1 (.t 7)⟩,
    ⟨(some 18), 288, (some (15, true)), .ld 1 false (.t 17)⟩,
    ⟨(some 19), 304, (some (15, true)), .bi false .leq (.t 16) (.t 18)⟩,
    ⟨(some 20), 320, none, .pick (.t 15) (.t 19) (.c (.bool false))⟩,
    ⟨(some 6), 96, none, .mv (.t 20)⟩])
  .ret)))
theorem fits75 : fits Tryz.prog false Tryz.f75 3 21 [(6, none)] = some c75.er := by kernel_rfl
def c23L1 : C := (.seq (.reg [⟨(some 40), 640, none, .bi false .lss (.t 39) (.t 38)⟩])
  (.seq (.cond (.t 40) .skip (.exit 0))
  (.seq (.block 1 (.seq (.reg [⟨(some 41), 656, none, .ia 1 (.t 37) (.t 39)⟩,
    ⟨(some 42), 672, none, .ld 1 false (.t 41)⟩,
    ⟨(some 19), 304, none, .mv (.t 42)⟩])
  (.seq (.reg [⟨(some 43), 688, none, .mv (.t 0)⟩,
    ⟨(some 44), 704, none, .mv (.t 19)⟩,
    ⟨(some 45), 720, none, .ia 7 (.t 43) (.t 44)⟩,
    ⟨(some 46), 736, none, .ld 7 true (.t 45)⟩,
    ⟨(some 47), 752, none, .mv (.t 3)⟩,
    ⟨(some 48), 768, none, .mv (.t 4)⟩,
    ⟨(some 49), 784, none, .call (.c (.fn (.func 75) [] [])) [(.t 46), (.t 47), (.t 48)]⟩])
  (.cond (.t 49) (.reg [⟨(some 50), 800, none, .mv (.t 16)⟩,
    ⟨(some 51), 816, none, .mv (.t 19)⟩,
    ⟨(some 52), 832, none, .bs 3 1 [(.t 51)]⟩,
    ⟨(some 53), 848, none, .app 3 1 8 (.t 50) (.t 52)⟩,
    ⟨(some 16), 256, none, .mv (.t 53)⟩]) (.reg [⟨(some 54), 864, none, .mv (.t 17)⟩,
    ⟨(some 55), 880, none, .mv (.t 19)⟩,
    ⟨(some 56), 896, none, .bs 3 1 [(.t 55)]⟩,
    ⟨(some 57), 912, none, .app 3 1 8 (.t 54) (.t 56)⟩,
    ⟨(some 17), 272, none, .mv (.t 57)⟩])))))
  (.reg [⟨(some 58), 928, none, .bi false .add (.t 39) (.c (.int .i64 1))⟩,
    ⟨(some 39), 624, none, .mv (.t 58)⟩]))))
def c23 : C := (.seq (.reg [⟨(some 10), 160, none, .mv (.c (.nil 1))⟩,
    ⟨(some 11), 176, none, .mv (.c (.nil 1))⟩,
    ⟨(some 12), 192, none, .mv (.c (.int .i64 0))⟩])
  (.seq (.seq (.reg [⟨(some 20), 320, none, .mv (.t 0)⟩,
    ⟨(some 21), 336, none, .mv (.t 1)⟩,
    ⟨(some 22), 352, none, .mv (.t 2)⟩,
    ⟨(some 23), 368, none, .mv (.t 3)⟩,
    ⟨(some 24), 384, none, .mv (.t 4)⟩,
    ⟨(some 25), 400, none, .bs 3 1 [(.t 23), (.t 24)]⟩,
    ⟨(some 26), 416, none, .call (.c (.fn (.func 73) [] [])) [(.t 20), (.t 21), (.t 22), (.t 25)]⟩,
    ⟨(some 13), 208, none, .mv (.t 26)⟩])
  (.seq (.reg [⟨(some 27), 432, none, .mv (.t 13)⟩,
    ⟨(some 28), 448, none, .bi false .neq (.t 27) (.c (.int .i64 0))⟩])
  (.cond (.t 28) (.seq (.reg [⟨(some 29), 464, none, .mv (.t 13)⟩,
    ⟨(some 10), 160, none, .mv (.c (.nil 1))⟩,
    ⟨(some 11), 176, none, .mv (.c (.nil 1))⟩,
    ⟨(some 12), 192, none, .mv (.t 29)⟩])
  .ret) .skip)))
  (.seq (.reg [⟨(some 31), 496, none, .mv (.t 0)⟩,
    ⟨(some 32), 512, none, .mv (.t 1)⟩,
    ⟨(some 33), 528, none, .mv (.t 2)⟩,
    ⟨(some 34), 544, none, .call (.c (.fn (.func 74) [] [])) [(.t 31), (.t 32), (.t 33)]⟩,
    ⟨(some 30), 480, none, .mv (.t 34)⟩,
    ⟨(some 35), 560, none, .ex (.t 30) 0⟩,
    ⟨(some 36), 576, none, .ex (.t 30) 1⟩,
    ⟨(some 14), 224, none, .mv (.t 35)⟩,
    ⟨(some 15), 240, none, .mv (.t 36)⟩])
  (.seq (.reg [⟨(some 16), 256, none, .mv (.c (.nil 1))⟩,
    ⟨(some 17), 272, none, .mv (.c (.nil 1))⟩])
  (.seq (.seq (.reg [⟨(some 37), 592, none, .mv (.t 14)⟩,
    ⟨(some 38), 608, none, .len (.t 37)⟩,
    ⟨(some 39), 624, none, .mv (.c (.int .i64 0))⟩])
  (.block 0 (.loop c23L1)))
  (.seq (.reg [⟨(some 59), 944, none, .mv (.t 16)⟩,
    ⟨(some 60), 960, none, .mv (.t 17)⟩,
    ⟨(some 10), 160, none, .mv (.t 59)⟩,
    ⟨(some 11), 176, none, .mv (.t 60)⟩,
    ⟨(some 12), 192, none, .mv (.c (.int .i64 0))⟩])
  .ret))))))
theorem fits23 : fits Tryz.prog false Tryz.f23 5 61 [(10, none), (11, none), (12, none)] = some c23.er := by kernel_rfl
def c147 : C := (.seq (.reg [⟨(some 2), 32, none, .bx 2 (.t 0)⟩,
    ⟨(some 3), 48, none, .bx 2 (.t 1)⟩,
    ⟨(some 4), 64, none, .al [(.int .i64 0), (.int .i64 0)]⟩,
    ⟨(some 5), 80, none, .mv (.c (.bool false))⟩])
  (.seq (.reg [⟨(some 7), 112, none, .fa 0 (.t 2)⟩,
    ⟨(some 8), 128, none, .ld 1 false (.t 7)⟩,
    ⟨(some 9), 144, none, .fa 0 (.t 3)⟩,
    ⟨(some 10), 160, none, .ld 1 false (.t 9)⟩,
    ⟨(some 11), 176, none, .mx [(.t 8), (.t 10)]⟩,
    ⟨(some 12), 192, none, .fa 1 (.t 2)⟩,
    ⟨(some 13), 208, none, .ld 1 false (.t 12)⟩,
    ⟨(some 14), 224, none, .fa 1 (.t 3)⟩,
    ⟨(some 15), 240, none, .ld 1 false (.t 14)⟩,
    ⟨(some 16), 256, none, .mn [(.t 13), (.t 15)]⟩,
    ⟨(some 17), 272, none, .bd [(.int .i64 0), (.int .i64 0)] [(0, 1, (.t 11)), (1, 1, (.t 16))]⟩,
    ⟨(some 6), 96, none, .al [(.int .i64 0), (.int .i64 0)]⟩,
    ⟨none, 0, none, .st 2 (.t 6) (.t 17)⟩])
  (.seq (.seq (.reg [⟨(some 18), 288, none, .fa 0 (.t 2)⟩,
    ⟨(some 19), 304, none, .ld 1 false (.t 18)⟩,
    ⟨(some 20), 320, none, .fa 1 (.t 2)⟩,
    ⟨(some 21), 336, none, .ld 1 false (.t 20)⟩,
    ⟨(some 22), 352, none, .bi false .gtr (.t 19) (.t 21)⟩,
    ⟨(some 23), 368, none, .mv (.t 22)⟩,
    ⟨(some 24), 384, (some (23, false)), .fa 0 (.t 3)⟩,
    ⟨(some 25), 400, (some (23, false)), .ld 1 false (.t 24)⟩,
    ⟨(some 26), 416, (some (23, false)), .fa 1 (.t 3)⟩,
    ⟨(some 27), 432, (some (23, false)), .ld 1 false (.t 26)⟩,
    ⟨(some 28), 448, (some (23, false)), .bi false .gtr (.t 25) (.t 27)⟩,
    ⟨(some 29), 464, none, .pick (.t 23) (.c (.bool true)) (.t 28)⟩,
    ⟨(some 30), 480, none, .mv (.t 29)⟩,
    ⟨(some 31), 496, (some (30, false)), .fa 0 (.t 6)⟩,
    ⟨(some 32), 512, (some (30, false)), .ld 1 false (.t 31)⟩,
    ⟨(some 33), 528, (some (30, false)), .fa 1 (.t 6)⟩,
    ⟨(some 34), 544, (some (30, false)), .ld 1 false (.t 33)⟩,
    ⟨(some 35), 560, (some (30, false)), .bi false .gtr (.t 32) (.t 34)⟩,
    ⟨(some 36), 576, none, .pick (.t 30) (.c (.bool true)) (.t 35)⟩])
  (.cond (.t 36) (.seq (.reg [⟨(some 37), 592, none, .bd [(.int .i64 0), (.int .i64 0)] []⟩,
    ⟨none, 0, none, .st 2 (.t 4) (.t 37)⟩,
    ⟨(some 5), 80, none, .mv (.c (.bool false))⟩])
  .ret) .skip))
  (.seq (.reg [⟨(some 38), 608, none, .ld 2 true (.t 6)⟩,
    ⟨none, 0, none, .st 2 (.t 4) (.t 38)⟩,
    ⟨(some 5), 80, none, .mv (.c (.bool true))⟩])
  .ret))))
theorem fits147 : fits Tryz.prog false Tryz.f147 2 39 [(4, some (2, true)), (5, none)] = some c147.er := by kernel_rfl
def c80 : C := (.seq (.reg [⟨(some 2), 32, none, .bx 2 (.t 0)⟩,
    ⟨(some 3), 48, none, .bx 2 (.t 1)⟩,
    ⟨(some 4), 64, none, .mv (.c (.bool false))⟩])
  (.seq (.reg [⟨(some 8), 128, none, .ld 2 true (.t 2)⟩,
    ⟨(some 9), 144, none, .ld 2 true (.t 3)⟩,
    ⟨(some 10), 160, none, .call (.c (.fn (.func 147) [] [])) [(.t 8), (.t 9)]⟩,
    ⟨(some 7), 112, none, .mv (.t 10)⟩,
    ⟨(some 11), 176, none, .ex (.t 7) 0⟩,
    ⟨(some 12), 192, none, .ex (.t 7) 1⟩,
    ⟨(some 5), 80, none, .al [(.int .i64 0), (.int .i64 0)]⟩,
    ⟨none, 0, none, .st 2 (.t 5) (.t 11)⟩,
    ⟨(some 6), 96, none, .mv (.t 12)⟩])
  (.seq (.reg [⟨(some 13), 208, none, .mv (.t 6)⟩,
    ⟨(some 14), 224, none, .un false .not (.t 13)⟩,
    ⟨(some 4), 64, none, .mv (.t 14)⟩])
  .ret)))
theorem fits80 : fits Tryz.prog false Tryz.f80 2 15 [(4, none)] = some c80.er := by kernel_rfl
def c81L1 : C := (.seq (.reg [⟨(some 9), 144, none, .bi false .lss (.t 8) (.t 7)⟩])
  (.seq (.cond (.t 9) .skip (.exit 0))
  (.seq (.block 1 (.seq (.reg [⟨(some 10), 160, none, .mv (.t 8)⟩,
    ⟨(some 5), 80, none, .mv (.t 10)⟩])
  (.seq (.reg [⟨(some 11), 176, none, .mv (.t 1)⟩,
    ⟨(some 12), 192, none, .mv (.t 0)⟩,
    ⟨(some 13), 208, none, .mv (.t 5)⟩,
    ⟨(some 14), 224, none, .ia 1 (.t 12) (.t 13)⟩,
    ⟨(some 15), 240, none, .ld 1 false (.t 14)⟩,
    ⟨(some 16), 256, none, .bi false .eql (.t 11) (.t 15)⟩])
  (.cond (.t 16) (.seq (.reg [⟨(some 17), 272, none, .mv (.t 5)⟩,
    ⟨(some 4), 64, none, .mv (.t 17)⟩])
  .ret) .skip))))
  (.reg [⟨(some 18), 288, none, .bi false .add (.t 8) (.c (.int .i64 1))⟩,
    ⟨(some 8), 128, none, .mv (.t 18)⟩]))))
def c81 : C := (.seq (.reg [⟨(some 4), 64, none, .mv (.c (.int .i64 0))⟩])
  (.seq (.seq (.reg [⟨(some 6), 96, none, .mv (.t 0)⟩,
    ⟨(some 7), 112, none, .len (.t 6)⟩,
    ⟨(some 8), 128, none, .mv (.c (.int .i64 0))⟩])
  (.block 0 (.loop c81L1)))
  (.seq (.reg [⟨(some 4), 64, none, .mv (.c (.int .i64 (-1)))⟩])
  .ret)))
theorem fits81 : fits Tryz.prog false Tryz.f81 2 19 [(4, none)] = some c81.er := by kernel_rfl
def c78 : C := (.seq (.reg [⟨(some 4), 64, none, .mv (.c (.bool false))⟩])
  (.seq (.reg [⟨(some 5), 80, none, .mv (.t 0)⟩,
    ⟨(some 6), 96, none, .mv (.t 1)⟩,
    ⟨(some 7), 112, none, .call (.c (.fn (.func 81) [] [])) [(.t 5), (.t 6)]⟩,
    ⟨(some 8), 128, none, .bi false .geq (.t 7) (.c (.int .i64 0))⟩,
    ⟨(some 4), 64, none, .mv (.t 8)⟩])
  .ret))
theorem fits78 : fits Tryz.prog false Tryz.f78 2 9 [(4, none)] = some c78.er := by kernel_rfl
def keepsB (c : Cd) (b r : Int) : Bool := bif decide ((permF c b).1 ≤ r) then decide (r ≤ (permF c b).2) else false
theorem call75 (c : Cd) (b r : Int) (hc : oneC c = 0) (hb : wi b 1073741824 = true) : PureCall Tryz.prog 75 [.agg (eCd c), .int .i64 b, .int .i64 r] [] ⟨.bool (keepsB c b r), [], []⟩ := by
  refine pure_call mix Tryz.func75 fits75 rfl ?_
  conv => whnf
  refine ⟨_, fun _ => call145 c b hc hb, ?_⟩
  conv => whnf
  refine ⟨?_, [], ?_⟩
  · exact g0
  conv => whnf
  refine ⟨rfl, ?_, trivial, trivial⟩
  all_goals repeat' (first | exact True.intro | refine leF_cons rfl ?_ ?_ | refine leS_cons rfl ?_ ?_ | (show PLe _ _ _ _; conv => whnf) | (show SLe _ _ _ _; conv => whnf) | (show PLeL _ _ _ _; conv => whnf) | apply And.intro | rfl | exact Nat.le_refl _ | exact fun _ _ => rfl | exact rowEq0 _ _)
def keptF (l : List Cd) (day level b r : Int) : List Int := (actF l day level).filter fun i => keepsB (l.getD i.toNat default) b r
def violF (l : List Cd) (day level b r : Int) : List Int := (actF l day level).filter fun i => !keepsB (l.getD i.toNat default) b r
theorem actF_len (l : List Cd) (day level : Int) : (actF l day level).length ≤ l.length := keepN_len _
theorem actF_in (l : List Cd) (day level : Int) : ∀ k, k < (actF l day level).length → (0 ≤ (actF l day level).getD k default ∧ (actF l day level).getD k default < l.length) ∧ oneC (l.getD ((actF l day level).getD k default).toNat default) = 0 := fun k hk => by
  have hm : (actF l day level).getD k default ∈ actF l day level := by
    rw [List.getD_eq_getElem?_getD, List.getElem?_eq_getElem hk]; exact List.getElem_mem hk
  obtain ⟨j, hj, hx, hp⟩ := keepN_mem _ _ hm
  refine ⟨by rw [hx]; exact ordF_in l j hj, ?_⟩
  unfold goneB applB at hp
  refine Decidable.byContradiction fun hne => ?_
  rw [decide_eq_false hne] at hp
  simp at hp
theorem take_filter {p : Int → Bool} {l : List Int} {i : Nat} (h : i < l.length) : (l.take (i + 1)).filter p = if p (l.getD i default) = true then (l.take i).filter p ++ [l.getD i default] else (l.take i).filter p := by
  have e : l.take (i + 1) = l.take i ++ [l.getD i default] := by
    rw [List.take_add_one, List.getD_eq_getElem?_getD, List.getElem?_eq_getElem h]; rfl
  rw [e, List.filter_append]
  by_cases hp : p (l.getD i default) = true
  · rw [if_pos hp, List.filter_cons_of_pos hp]; rfl
  · rw [if_neg hp, List.filter_cons_of_neg hp]; simp
set_option maxRecDepth 100000 in
set_option maxHeartbeats 4000000 in
theorem call23 (l : List Cd) (day level before rel : Int) (h20 : l.length < 20) (hl : limC l = 0) (hd : wi day 364 = true) (hv : wi level 16777216 = true) (h1 : wi before 1073741824 = true) (h2 : wi rel 1073741824 = true) :
    PureCall Tryz.prog 23 [.sl 2 7 l.length (fl eCd l), .int .i64 day, .int .i64 level, .int .i64 before, .int .i64 rel] []
      ⟨.tup [.sl 0 1 (keptF l day level before rel).length (fl eInt (keptF l day level before rel)), .sl 0 1 (violF l day level before rel).length (fl eInt (violF l day level before rel)), .int .i64 0], [], []⟩ := by
  refine pure_call mix Tryz.func23 fits23 rfl ?_
  conv => whnf
  have hall : ∀ x ∈ [before, rel], wi x 1073741824 = true := fun x hx => by
    simp only [List.mem_cons, List.not_mem_nil, or_false] at hx
    rcases hx with rfl | rfl <;> assumption
  refine ⟨_, fun _ => PureCall.arg_le (call73 2 2 l day level [before, rel] (by simp) hl hd hv hall) rfl ?_, ?_⟩
  · have hr : RowEq 2 (fun i => [[PV.int .i64 before], [PV.int .i64 rel]].getD i []) (fl eInt [before, rel]) := fun i hi => by
      match i, hi with
      | 0, _ => rfl
      | 1, _ => rfl
    exact ent
  conv => whnf
  refine ⟨?_, fun hc => absurd hc (by decide), fun _ => ?_⟩
  · exact g0
  conv => whnf
  refine ⟨_, fun _ => call74 l day level h20 hl hd hv, ?_⟩
  conv => whnf
  refine ⟨?_, ?_⟩
  · exact g0
  refine LSem.adopt 16 1000000 3 1 1 rfl rfl ?_
  refine LSem.adopt 17 1000001 3 1 1 rfl rfl ?_
  have hal := actF_len l day level
  have hain := actF_in l day level
  unfold keptF violF
  generalize actF l day level = act at *
  refine LSem.loop (n := 61) mix (α := Nat) (fun i => i ≤ act.length)
    (fun i => [(0, .sl 2 7 l.length (fl eCd l)), (3, .int .i64 before), (4, .int .i64 rel), (16, .os 1000000), (17, .os 1000001), (37, .os 544), (38, .int .i64 act.length), (39, .int .i64 i)])
    (fun i => [(544, .row 1 3 1 act.length (fl eInt act)), (1000000, .row 0 3 1 ((act.take i).filter fun i => keepsB (l.getD i.toNat default) before rel).length (fl eInt ((act.take i).filter fun i => keepsB (l.getD i.toNat default) before rel))),
      (1000001, .row 0 3 1 ((act.take i).filter fun i => !keepsB (l.getD i.toNat default) before rel).length (fl eInt ((act.take i).filter fun i => !keepsB (l.getD i.toNat default) before rel)))]) (fun i => act.length - i) 0 ?_ ?_ ?_
  · exact Nat.zero_le _
  · refine ⟨rfl, rfl, ?_, ?_⟩
    all_goals repeat' (first | exact True.intro | refine leF_cons rfl ?_ ?_ | refine leS_cons rfl ?_ ?_ | (show PLe _ _ _ _; conv => whnf) | (show SLe _ _ _ _; conv => whnf) | (show PLeL _ _ _ _; conv => whnf) | apply And.intro | rfl | exact Nat.le_refl _ | exact fun _ _ => rfl | exact rowEq0 _ _)
  · intro i hile
    have hj : ((i : Int)).toNat = i := by omega
    conv => whnf
    refine ⟨trivial, fun hc => ?_, fun hc => ?_⟩
    · replace hc := of_decide_eq_true hc
      have hlt : i < act.length := by omega
      obtain ⟨⟨ha1, ha2⟩, hone⟩ := hain i hlt
      have hk1 := take_filter (p := fun i => keepsB (l.getD i.toNat default) before rel) hlt
      have hk2 := take_filter (p := fun i => !keepsB (l.getD i.toNat default) before rel) hlt
      have hb1 : ((act.take i).filter fun i => keepsB (l.getD i.toNat default) before rel).length ≤ i := Nat.le_trans (List.length_filter_le _ _) (by rw [List.length_take]; omega)
      have hb2 : ((act.take i).filter fun i => !keepsB (l.getD i.toNat default) before rel).length ≤ i := Nat.le_trans (List.length_filter_le _ _) (by rw [List.length_take]; omega)
      conv => whnf
      refine ⟨_, fun _ => call75 (l.getD (act.getD ((i : Int)).toNat default).toNat default) before rel (by rw [hj]; exact hone) h1, ?_⟩
      rw [hj]
      conv => whnf
      generalize act.getD i default = a at *
      refine ⟨?_, fun hK => ?_, fun hK => ?_⟩
      · exact g0
      · rw [if_pos hK] at hk1
        rw [if_neg (by rw [hK]; decide)] at hk2
        conv => whnf
        refine ⟨?_, i + 1, hlt, ?_, rfl, rfl, ?_, ?_⟩
        · exact g0
        · omega
        all_goals repeat' (first | exact True.intro | refine leF_cons rfl ?_ ?_ | refine leS_cons rfl ?_ ?_ | (show PLe _ _ _ _; conv => whnf) | (show SLe _ _ _ _; conv => whnf) | (show PLeL _ _ _ _; conv => whnf) | apply And.intro | rfl | exact Nat.le_refl _ | exact fun _ _ => rfl | exact rowEq0 _ _)
        all_goals first | (rw [hk1]; simp; done) | (rw [hk2]; done) | (rw [hk1]; exact fl_push eInt _ a) | (rw [hk2]; exact fun _ _ => rfl) | skip
      · rw [if_neg (by rw [hK]; decide)] at hk1
        rw [if_pos (by rw [hK]; rfl)] at hk2
        conv => whnf
        refine ⟨?_, i + 1, hlt, ?_, rfl, rfl, ?_, ?_⟩
        · exact g0
        · omega
        all_goals repeat' (first | exact True.intro | refine leF_cons rfl ?_ ?_ | refine leS_cons rfl ?_ ?_ | (show PLe _ _ _ _; conv => whnf) | (show SLe _ _ _ _; conv => whnf) | (show PLeL _ _ _ _; conv => whnf) | apply And.intro | rfl | exact Nat.le_refl _ | exact fun _ _ => rfl | exact rowEq0 _ _)
        all_goals first | (rw [hk2]; simp; done) | (rw [hk1]; done) | (rw [hk2]; exact fl_push eInt _ a) | (rw [hk1]; exact fun _ _ => rfl) | skip
    · replace hc := of_decide_eq_false hc
      have : i = act.length := by omega
      subst this
      rw [List.take_length]
      conv => whnf
      refine ⟨?_, [], ?_⟩
      · exact g0
      conv => whnf
      refine ⟨rfl, ?_, trivial, trivial⟩
      all_goals repeat' (first | exact True.intro | refine leF_cons rfl ?_ ?_ | refine leS_cons rfl ?_ ?_ | (show PLe _ _ _ _; conv => whnf) | (show SLe _ _ _ _; conv => whnf) | (show PLeL _ _ _ _; conv => whnf) | apply And.intro | rfl | exact Nat.le_refl _ | exact fun _ _ => rfl | exact rowEq0 _ _)
def apartB (a1 a2 b1 b2 : Int) : Bool := decide (a2 < a1 ∨ b2 < b1 ∨ min a2 b2 < max a1 b1)
set_option maxRecDepth 100000 in
theorem call147 (a1 a2 b1 b2 : Int) : ∃ v, PureCall Tryz.prog 147 [.agg [.int .i64 a1, .int .i64 a2], .agg [.int .i64 b1, .int .i64 b2]] [] ⟨.tup [.agg [.int .i64 (v : Int × Int).1, .int .i64 v.2], .bool (!apartB a1 a2 b1 b2)], [], []⟩ := by
  refine ⟨if apartB a1 a2 b1 b2 = true then (0, 0) else (if b1 > a1 then b1 else a1, if b2 < a2 then b2 else a2), ?_⟩
  refine pure_call mix Tryz.func147 fits147 rfl ?_
  conv => whnf
  refine ⟨?_, fun hc => ?_, fun hc => ?_⟩
  · exact g0
  · have h : apartB a1 a2 b1 b2 = true := by
      simp only [bp] at hc
      unfold apartB
      rw [decide_eq_true_eq]
      repeat' (split at hc)
      all_goals omega
    rw [h]
    conv => whnf
    refine ⟨?_, [], ?_⟩
    · exact g0
    conv => whnf
    refine ⟨rfl, ?_, trivial, trivial⟩
    all_goals repeat' (first | exact True.intro | refine leF_cons rfl ?_ ?_ | refine leS_cons rfl ?_ ?_ | (show PLe _ _ _ _; conv => whnf) | (show SLe _ _ _ _; conv => whnf) | (show PLeL _ _ _ _; conv => whnf) | apply And.intro | rfl | exact Nat.le_refl _ | exact fun _ _ => rfl | exact rowEq0 _ _)
  · have h : apartB a1 a2 b1 b2 = false := by
      simp only [bp] at hc
      unfold apartB
      rw [decide_eq_false_iff_not]
      repeat' (split at hc)
      all_goals omega
    rw [h]
    conv => whnf
    refine ⟨?_, [], ?_⟩
    · exact g0
    conv => whnf
    refine ⟨rfl, ?_, trivial, trivial⟩
    all_goals repeat' (first | exact True.intro | refine leF_cons rfl ?_ ?_ | refine leS_cons rfl ?_ ?_ | (show PLe _ _ _ _; conv => whnf) | (show SLe _ _ _ _; conv => whnf) | (show PLeL _ _ _ _; conv => whnf) | apply And.intro | rfl | exact Nat.le_refl _ | exact fun _ _ => rfl | exact rowEq0 _ _)
    all_goals rfl
theorem call80 (a1 a2 b1 b2 : Int) : PureCall Tryz.prog 80 [.agg [.int .i64 a1, .int .i64 a2], .agg [.int .i64 b1, .int .i64 b2]] [] ⟨.bool (apartB a1 a2 b1 b2), [], []⟩ := by
  obtain ⟨v, hv⟩ := call147 a1 a2 b1 b2
  refine pure_call mix Tryz.func80 fits80 rfl ?_
  conv => whnf
  refine ⟨_, fun _ => hv, ?_⟩
  conv => whnf
  refine ⟨?_, [], ?_⟩
  · exact g0
  conv => whnf
  refine ⟨rfl, ?_, trivial, trivial⟩
  all_goals repeat' (first | exact True.intro | refine leF_cons rfl ?_ ?_ | refine leS_cons rfl ?_ ?_ | (show PLe _ _ _ _; conv => whnf) | (show SLe _ _ _ _; conv => whnf) | (show PLeL _ _ _ _; conv => whnf) | apply And.intro | rfl | exact Nat.le_refl _ | exact fun _ _ => rfl | exact rowEq0 _ _)
  all_goals simp
def idxF (l : List Int) (x : Int) : Int := ixF (fun y => x == y) (fun k => l.getD k default) 0 l.length
theorem call81 (τ : Nat) (l : List Int) (x : Int) (hl : l.length ≤ 4611686018427387904) : PureCall Tryz.prog 81 [.sl τ 1 l.length (fl eInt l), .int .i64 x] [] ⟨.int .i64 (idxF l x), [], []⟩ := by
  unfold idxF
  refine pure_call mix Tryz.func81 fits81 rfl ?_
  conv => whnf
  refine ⟨trivial, ?_⟩
  refine LSem.loop (n := 19) mix (α := Nat) (fun i => i ≤ l.length ∧ ixF (fun y => x == y) (fun k => l.getD k default) i (l.length - i) = ixF (fun y => x == y) (fun k => l.getD k default) 0 l.length)
    (fun i => [(0, .sl τ 1 l.length (fl eInt l)), (1, .int .i64 x), (7, .int .i64 l.length), (8, .int .i64 i)])
    (fun i => []) (fun i => l.length - i) 0 ?_ ?_ ?_
  · exact ⟨Nat.zero_le _, rfl⟩
  · refine ⟨rfl, rfl, ?_, ?_⟩
    all_goals repeat' (first | exact True.intro | refine leF_cons rfl ?_ ?_ | refine leS_cons rfl ?_ ?_ | (show PLe _ _ _ _; conv => whnf) | (show SLe _ _ _ _; conv => whnf) | (show PLeL _ _ _ _; conv => whnf) | apply And.intro | rfl | exact Nat.le_refl _ | exact fun _ _ => rfl | exact rowEq0 _ _)
  · intro i hi
    obtain ⟨hi, hs⟩ := hi
    have hj : ((i : Int)).toNat = i := by omega
    conv => whnf
    refine ⟨trivial, fun hc => ?_, fun hc => ?_⟩
    · replace hc := of_decide_eq_true hc
      have hlt : i < l.length := by omega
      have hst : ixF (fun y => x == y) (fun k => l.getD k default) i (l.length - i) = if (x == l.getD i default) = true then (i : Int) else ixF (fun y => x == y) (fun k => l.getD k default) (i + 1) (l.length - (i + 1)) := by
        rw [show l.length - i = (l.length - (i + 1)) + 1 by omega]; rfl
      rw [hst] at hs
      conv => whnf
      refine ⟨?_, fun hc2 => ?_, fun hc2 => ?_⟩
      · exact g0
      · rw [hj] at hc2
        rw [if_pos hc2] at hs
        rw [← hs]
        conv => whnf
        refine ⟨?_, [], ?_⟩
        · exact g0
        conv => whnf
        refine ⟨rfl, ?_, trivial, trivial⟩
        all_goals repeat' (first | exact True.intro | refine leF_cons rfl ?_ ?_ | refine leS_cons rfl ?_ ?_ | (show PLe _ _ _ _; conv => whnf) | (show SLe _ _ _ _; conv => whnf) | (show PLeL _ _ _ _; conv => whnf) | apply And.intro | rfl | exact Nat.le_refl _ | exact fun _ _ => rfl | exact rowEq0 _ _)
      · rw [hj] at hc2
        rw [if_neg (by rw [hc2]; decide)] at hs
        conv => whnf
        refine ⟨?_, i + 1, ⟨by omega, hs⟩, ?_, rfl, rfl, ?_, ?_⟩
        · exact g0
        · omega
        all_goals repeat' (first | exact True.intro | refine leF_cons rfl ?_ ?_ | refine leS_cons rfl ?_ ?_ | (show PLe _ _ _ _; conv => whnf) | (show SLe _ _ _ _; conv => whnf) | (show PLeL _ _ _ _; conv => whnf) | apply And.intro | rfl | exact Nat.le_refl _ | exact fun _ _ => rfl | exact rowEq0 _ _)
        all_goals omega
    · replace hc := of_decide_eq_false hc
      rw [show l.length - i = 0 by omega] at hs
      rw [← hs]
      conv => whnf
      refine ⟨?_, [], ?_⟩
      · exact g0
      conv => whnf
      refine ⟨rfl, ?_, trivial, trivial⟩
      all_goals repeat' (first | exact True.intro | refine leF_cons rfl ?_ ?_ | refine leS_cons rfl ?_ ?_ | (show PLe _ _ _ _; conv => whnf) | (show SLe _ _ _ _; conv => whnf) | (show PLeL _ _ _ _; conv => whnf) | apply And.intro | rfl | exact Nat.le_refl _ | exact fun _ _ => rfl | exact rowEq0 _ _)
theorem call78 (τ : Nat) (l : List Int) (x : Int) (hl : l.length ≤ 4611686018427387904) : PureCall Tryz.prog 78 [.sl τ 1 l.length (fl eInt l), .int .i64 x] [] ⟨.bool (decide (idxF l x ≥ 0)), [], []⟩ := by
  refine pure_call mix Tryz.func78 fits78 rfl ?_
  conv => whnf
  refine ⟨_, fun _ => call81 _ l x hl, ?_⟩
  conv => whnf
  refine ⟨?_, [], ?_⟩
  · exact g0
  conv => whnf
  refine ⟨rfl, ?_, trivial, trivial⟩
  all_goals repeat' (first | exact True.intro | refine leF_cons rfl ?_ ?_ | refine leS_cons rfl ?_ ?_ | (show PLe _ _ _ _; conv => whnf) | (show SLe _ _ _ _; conv => whnf) | (show PLeL _ _ _ _; conv => whnf) | apply And.intro | rfl | exact Nat.le_refl _ | exact fun _ _ => rfl | exact rowEq0 _ _)
theorem ixF_get {p : Int → Bool} {g : Nat → Int} {k : Nat} (h : p (g k) = true) : ∀ {n i : Nat}, i ≤ k → k < i + n → 0 ≤ ixF p g i n
  | 0, i, h1, h2 => by omega
  | n + 1, i, h1, h2 => by
    unfold ixF
    by_cases e : p (g i) = true
    · rw [if_pos e]; omega
    · rw [if_neg e]
      by_cases hk : k = i
      · subst hk; exact absurd h e
      · exact ixF_get h (by omega) (by omega)
theorem idxF_iff {l : List Int} {x : Int} : 0 ≤ idxF l x ↔ x ∈ l := by
  unfold idxF
  constructor
  · intro h
    obtain ⟨k, _, _, h1, h2, _⟩ := ixF_pos h
    have : x = l.getD k default := by simpa using h2
    rw [this, List.getD_eq_getElem?_getD, List.getElem?_eq_getElem (by omega)]
    exact List.getElem_mem _
  · intro h
    obtain ⟨k, hk, he⟩ := List.getElem_of_mem h
    refine ixF_get (k := k) ?_ (Nat.zero_le _) (by omega)
    rw [List.getD_eq_getElem?_getD, List.getElem?_eq_getElem hk]
    simp [he]
end Pv
end Go.Proofs.YtdcgnfkkklbckaaGreatDoor
/- TOP, THE WALKS: conditions that may exclude one another. -/
set_option linter.unusedSimpArgs false
set_option linter.unusedVariables false
namespace Go.Proofs.YtdcgnfkkklbckaaGreatDoor
namespace Pv
def c199 : C := (.seq (.reg [⟨(some 2), 32, none, .mv (.c (.bool false))⟩])
  (.seq (.reg [⟨(some 3), 48, none, .mv (.t 0)⟩,
    ⟨(some 4), 64, none, .bi false .eql (.t 3) (.c (.int .i64 1))⟩,
    ⟨(some 5), 80, none, .mv (.t 4)⟩,
    ⟨(some 6), 96, (some (5, false)), .mv (.t 0)⟩,
    ⟨(some 7), 112, (some (5, false)), .bi false .eql (.t 6) (.c (.int .i64 4))⟩,
    ⟨(some 8), 128, none, .pick (.t 5) (.c (.bool true)) (.t 7)⟩,
    ⟨(some 2), 32, none, .mv (.t 8)⟩])
  .ret))
theorem fits199 : fits Tryz.prog false Tryz.f199 1 9 [(2, none)] = some c199.er := by kernel_rfl
def c252L1 : C := (.seq (.reg [⟨(some 8), 128, none, .bi false .lss (.t 7) (.c (.int .i64 365))⟩])
  (.seq (.cond (.t 8) .skip (.exit 0))
  (.seq (.block 1 (.seq (.reg [⟨(some 9), 144, none, .mv (.t 7)⟩,
    ⟨(some 6), 96, none, .mv (.t 9)⟩])
  (.seq (.reg [⟨(some 10), 160, none, .ld 2 true (.t 2)⟩,
    ⟨(some 11), 176, none, .mv (.t 6)⟩,
    ⟨(some 12), 192, none, .call (.c (.fn (.func 197) [] [])) [(.t 10), (.t 11)]⟩,
    ⟨(some 13), 208, none, .mv (.t 12)⟩,
    ⟨(some 14), 224, (some (13, true)), .ld 2 true (.t 3)⟩,
    ⟨(some 15), 240, (some (13, true)), .mv (.t 6)⟩,
    ⟨(some 16), 256, (some (13, true)), .call (.c (.fn (.func 197) [] [])) [(.t 14), (.t 15)]⟩,
    ⟨(some 17), 272, none, .pick (.t 13) (.t 16) (.c (.bool false))⟩])
  (.cond (.t 17) (.reg [⟨(some 18), 288, none, .mv (.t 5)⟩,
    ⟨(some 19), 304, none, .mv (.t 6)⟩,
    ⟨(some 20), 320, none, .bs 3 1 [(.t 19)]⟩,
    ⟨(some 21), 336, none, .app 3 1 8 (.t 18) (.t 20)⟩,
    ⟨(some 5), 80, none, .mv (.t 21)⟩]) .skip))))
  (.reg [⟨(some 22), 352, none, .bi false .add (.t 7) (.c (.int .i64 1))⟩,
    ⟨(some 7), 112, none, .mv (.t 22)⟩]))))
def c252 : C := (.seq (.reg [⟨(some 2), 32, none, .bx 2 (.t 0)⟩,
    ⟨(some 3), 48, none, .bx 2 (.t 1)⟩,
    ⟨(some 4), 64, none, .mv (.c (.nil 1))⟩])
  (.seq (.reg [⟨(some 5), 80, none, .mv (.c (.nil 1))⟩])
  (.seq (.seq (.reg [⟨(some 7), 112, none, .mv (.c (.int .i64 0))⟩])
  (.block 0 (.loop c252L1)))
  (.seq (.reg [⟨(some 23), 368, none, .mv (.t 5)⟩,
    ⟨(some 4), 64, none, .mv (.t 23)⟩])
  .ret))))
theorem fits252 : fits Tryz.prog false Tryz.f252 2 24 [(4, none)] = some c252.er := by kernel_rfl
def c198 : C := (.seq (.reg [⟨(some 2), 32, none, .bx 7 (.t 0)⟩,
    ⟨(some 3), 48, none, .bx 7 (.t 1)⟩,
    ⟨(some 4), 64, none, .mv (.c (.bool false))⟩])
  (.seq (.reg [⟨(some 5), 80, none, .fa 5 (.t 2)⟩,
    ⟨(some 6), 96, none, .ld 1 false (.t 5)⟩,
    ⟨(some 7), 112, none, .fa 5 (.t 3)⟩,
    ⟨(some 8), 128, none, .ld 1 false (.t 7)⟩,
    ⟨(some 9), 144, none, .mx [(.t 6), (.t 8)]⟩,
    ⟨(some 10), 160, none, .fa 6 (.t 2)⟩,
    ⟨(some 11), 176, none, .ld 1 false (.t 10)⟩,
    ⟨(some 12), 192, none, .fa 6 (.t 3)⟩,
    ⟨(some 13), 208, none, .ld 1 false (.t 12)⟩,
    ⟨(some 14), 224, none, .mn [(.t 11), (.t 13)]⟩,
    ⟨(some 15), 240, none, .bi false .leq (.t 9) (.t 14)⟩,
    ⟨(some 16), 256, none, .mv (.t 15)⟩,
    ⟨(some 17), 272, (some (16, true)), .fa 3 (.t 2)⟩,
    ⟨(some 18), 288, (some (16, true)), .ld 2 true (.t 17)⟩,
    ⟨(some 19), 304, (some (16, true)), .fa 3 (.t 3)⟩,
    ⟨(some 20), 320, (some (16, true)), .ld 2 true (.t 19)⟩,
    ⟨(some 21), 336, (some (16, true)), .call (.c (.fn (.func 252) [] [])) [(.t 18), (.t 20)]⟩,
    ⟨(some 22), 352, (some (16, true)), .len (.t 21)⟩,
    ⟨(some 23), 368, (some (16, true)), .bi false .gtr (.t 22) (.c (.int .i64 0))⟩,
    ⟨(some 24), 384, none, .pick (.t 16) (.t 23) (.c (.bool false))⟩,
    ⟨(some 4), 64, none, .mv (.t 24)⟩])
  .ret))
theorem fits198 : fits Tryz.prog false Tryz.f198 2 25 [(4, none)] = some c198.er := by kernel_rfl
def c146 : C := (.seq (.reg [⟨(some 2), 32, none, .bx 7 (.t 0)⟩,
    ⟨(some 3), 48, none, .bx 7 (.t 1)⟩,
    ⟨(some 4), 64, none, .mv (.c (.bool false))⟩,
    ⟨(some 5), 80, none, .mv (.c (.bool false))⟩])
  (.seq (.seq (.drw [⟨(some 6), 96, none, .ld 7 true (.t 2)⟩,
    ⟨(some 7), 112, none, .ld 7 true (.t 3)⟩,
    ⟨(some 8), 128, none, .call (.c (.fn (.func 198) [] [])) [(.t 6), (.t 7)]⟩,
    ⟨(some 9), 144, none, .un false .not (.t 8)⟩,
    ⟨(some 10), 160, none, .mv (.t 9)⟩,
    ⟨(some 11), 176, (some (10, false)), .fa 1 (.t 2)⟩,
    ⟨(some 12), 192, (some (10, false)), .ld 1 false (.t 11)⟩,
    ⟨(some 13), 208, (some (10, false)), .call (.c (.fn (.func 199) [] [])) [(.t 12)]⟩,
    ⟨(some 14), 224, (some (10, false)), .fa 1 (.t 3)⟩,
    ⟨(some 15), 240, (some (10, false)), .ld 1 false (.t 14)⟩,
    ⟨(some 16), 256, (some (10, false)), .call (.c (.fn (.func 199) [] [])) [(.t 15)]⟩,
    ⟨(some 17), 272, (some (10, false)), .bib false (.t 13) (.t 16)⟩,
    ⟨(some 18), 288, none, .pick (.t 10) (.c (.bool true)) (.t 17)⟩]
    [(0, 1, 6), (5, 8, 11), (5, 9, 11), (6, 8, 12), (6, 9, 12), (7, 8, 13), (7, 9, 13)])
  (.cond (.t 18) (.seq (.reg [⟨(some 4), 64, none, .mv (.c (.bool false))⟩,
    ⟨(some 5), 80, none, .mv (.c (.bool false))⟩])
  .ret) .skip))
  (.seq (.seq (.reg [⟨(some 19), 304, none, .fa 1 (.t 3)⟩,
    ⟨(some 20), 320, none, .ld 1 false (.t 19)⟩,
    ⟨(some 21), 336, none, .call (.c (.fn (.func 199) [] [])) [(.t 20)]⟩])
  (.cond (.t 21) (.reg [⟨(some 22), 352, none, .ld 7 true (.t 3)⟩,
    ⟨(some 23), 368, none, .ld 7 true (.t 2)⟩,
    ⟨none, 0, none, .st 7 (.t 2) (.t 22)⟩,
    ⟨none, 0, none, .st 7 (.t 3) (.t 23)⟩]) .skip))
  (.seq (.block 0 (.seq (.reg [⟨(some 25), 400, none, .fa 1 (.t 2)⟩,
    ⟨(some 26), 416, none, .ld 1 false (.t 25)⟩,
    ⟨(some 27), 432, none, .bi false .eql (.t 26) (.c (.int .i64 1))⟩,
    ⟨(some 28), 448, none, .mv (.t 27)⟩,
    ⟨(some 29), 464, (some (28, true)), .fa 1 (.t 3)⟩,
    ⟨(some 30), 480, (some (28, true)), .ld 1 false (.t 29)⟩,
    ⟨(some 31), 496, (some (28, true)), .bi false .eql (.t 30) (.c (.int .i64 2))⟩,
    ⟨(some 32), 512, none, .pick (.t 28) (.t 31) (.c (.bool false))⟩,
    ⟨(some 24), 384, none, .mv (.t 32)⟩])
  (.cond (.t 24) (.seq (.drw [⟨(some 33), 528, none, .fa 2 (.t 2)⟩,
    ⟨(some 34), 544, none, .ld 1 false (.t 33)⟩,
    ⟨(some 35), 560, none, .fa 2 (.t 3)⟩,
    ⟨(some 36), 576, none, .ld 1 false (.t 35)⟩,
    ⟨(some 37), 592, none, .bi false .gtr (.t 34) (.t 36)⟩,
    ⟨(some 38), 608, none, .fa 2 (.t 2)⟩,
    ⟨(some 39), 624, none, .ld 1 false (.t 38)⟩,
    ⟨(some 40), 640, none, .fa 2 (.t 3)⟩,
    ⟨(some 41), 656, none, .ld 1 false (.t 40)⟩,
    ⟨(some 42), 672, none, .bi false .gtr (.t 39) (.t 41)⟩,
    ⟨(some 4), 64, none, .mv (.t 37)⟩,
    ⟨(some 5), 80, none, .mv (.t 42)⟩]
    [(0, 2, 33), (0, 3, 33), (0, 5, 33), (0, 6, 33), (0, 7, 33), (0, 8, 33), (0, 9, 33), (1, 2, 34), (1, 3, 34), (1, 5, 34), (1, 6, 34), (1, 7, 34), (1, 8, 34), (1, 9, 34), (2, 5, 35), (2, 6, 35), (2, 7, 35), (2, 8, 35), (2, 9, 35), (3, 5, 36), (3, 6, 36), (3, 7, 36), (3, 8, 36), (3, 9, 36), (4, 5, 37), (4, 6, 37), (4, 7, 37), (4, 8, 37), (4, 9, 37), (5, 7, 38), (5, 8, 38), (5, 10, 38), (6, 7, 39), (6, 8, 39), (6, 10, 39), (7, 10, 40), (8, 10, 41), (9, 10, 42)])
  .ret) (.seq (.reg [⟨(some 44), 704, none, .fa 1 (.t 2)⟩,
    ⟨(some 45), 720, none, .ld 1 false (.t 44)⟩,
    ⟨(some 46), 736, none, .bi false .eql (.t 45) (.c (.int .i64 1))⟩,
    ⟨(some 43), 688, none, .mv (.t 46)⟩])
  (.cond (.t 43) (.seq (.reg [⟨(some 47), 752, none, .fa 2 (.t 2)⟩,
    ⟨(some 48), 768, none, .ld 1 false (.t 47)⟩,
    ⟨(some 49), 784, none, .fa 2 (.t 3)⟩,
    ⟨(some 50), 800, none, .ld 1 false (.t 49)⟩,
    ⟨(some 51), 816, none, .bi false .gtr (.t 48) (.t 50)⟩,
    ⟨(some 4), 64, none, .mv (.t 51)⟩,
    ⟨(some 5), 80, none, .mv (.c (.bool false))⟩])
  .ret) (.seq (.reg [⟨(some 53), 848, none, .fa 1 (.t 3)⟩,
    ⟨(some 54), 864, none, .ld 1 false (.t 53)⟩,
    ⟨(some 55), 880, none, .bi false .eql (.t 54) (.c (.int .i64 2))⟩,
    ⟨(some 52), 832, none, .mv (.t 55)⟩])
  (.cond (.t 52) (.seq (.reg [⟨(some 56), 896, none, .fa 2 (.t 2)⟩,
    ⟨(some 57), 912, none, .ld 1 false (.t 56)⟩,
    ⟨(some 58), 928, none, .bi false .sub (.c (.int .i64 1073741824)) (.t 57)⟩,
    ⟨(some 59), 944, none, .fa 2 (.t 3)⟩,
    ⟨(some 60), 960, none, .ld 1 false (.t 59)⟩,
    ⟨(some 61), 976, none, .bi false .gtr (.t 58) (.t 60)⟩,
    ⟨(some 4), 64, none, .mv (.t 61)⟩,
    ⟨(some 5), 80, none, .mv (.c (.bool false))⟩])
  .ret) .skip)))))))
  (.seq (.reg [⟨(some 4), 64, none, .mv (.c (.bool false))⟩,
    ⟨(some 5), 80, none, .mv (.c (.bool false))⟩])
  .ret)))))
theorem fits146 : fits Tryz.prog false Tryz.f146 2 62 [(4, none), (5, none)] = some c146.er := by kernel_rfl
def c77 : C := (.seq (.reg [⟨(some 4), 64, none, .mv (.c (.bool false))⟩])
  (.seq (.reg [⟨(some 5), 80, none, .mv (.t 0)⟩,
    ⟨(some 4), 64, none, .mv (.t 5)⟩])
  .ret))
theorem fits77 : fits Tryz.prog false Tryz.f77 2 6 [(4, none)] = some c77.er := by kernel_rfl
def c76L2 : C := (.seq (.block 3 (.seq (.seq (.reg [⟨(some 24), 384, none, .mv (.t 9)⟩,
    ⟨(some 25), 400, none, .mv (.t 0)⟩,
    ⟨(some 26), 416, none, .len (.t 25)⟩,
    ⟨(some 27), 432, none, .bi false .geq (.t 24) (.t 26)⟩])
  (.cond (.t 27) (.exit 1) .skip))
  (.seq (.drw [⟨(some 28), 448, none, .mv (.t 1)⟩,
    ⟨(some 29), 464, none, .mv (.t 0)⟩,
    ⟨(some 30), 480, none, .mv (.t 8)⟩,
    ⟨(some 31), 496, none, .ia 7 (.t 29) (.t 30)⟩,
    ⟨(some 32), 512, none, .ld 7 true (.t 31)⟩,
    ⟨(some 33), 528, none, .mv (.t 0)⟩,
    ⟨(some 34), 544, none, .mv (.t 9)⟩,
    ⟨(some 35), 560, none, .ia 7 (.t 33) (.t 34)⟩,
    ⟨(some 36), 576, none, .ld 7 true (.t 35)⟩,
    ⟨(some 37), 592, none, .call (.c (.fn (.func 146) [] [])) [(.t 32), (.t 36)]⟩,
    ⟨(some 38), 608, none, .ex (.t 37) 0⟩,
    ⟨(some 39), 624, none, .ex (.t 37) 1⟩,
    ⟨(some 40), 640, none, .call (.t 28) [(.t 38), (.t 39)]⟩]
    [(0, 1, 28), (0, 2, 28), (0, 3, 28), (0, 4, 28), (0, 5, 28), (0, 6, 28), (0, 7, 28), (0, 8, 28), (0, 9, 28), (0, 10, 28), (0, 11, 28), (1, 2, 29), (1, 5, 29), (1, 6, 29), (1, 7, 29), (1, 8, 29), (2, 5, 30), (2, 6, 30), (2, 7, 30), (2, 8, 30), (3, 5, 31), (3, 6, 31), (3, 7, 31), (3, 8, 31), (4, 5, 32), (4, 6, 32), (4, 7, 32), (4, 8, 32), (5, 6, 33), (10, 11, 38)])
  (.cond (.t 40) (.reg [⟨(some 41), 656, none, .mv (.t 7)⟩,
    ⟨(some 42), 672, none, .mv (.t 8)⟩,
    ⟨(some 43), 688, none, .mv (.t 9)⟩,
    ⟨(some 44), 704, none, .bd [(.int .i64 0), (.int .i64 0)] [(0, 1, (.t 42)), (1, 1, (.t 43))]⟩,
    ⟨(some 45), 720, none, .bs 200 2 [(.t 44)]⟩,
    ⟨(some 46), 736, none, .app 200 2 16 (.t 41) (.t 45)⟩,
    ⟨(some 7), 112, none, .mv (.t 46)⟩]) .skip))))
  (.reg [⟨(some 22), 352, none, .mv (.t 9)⟩,
    ⟨(some 23), 368, none, .bi false .add (.t 22) (.c (.int .i64 1))⟩,
    ⟨(some 9), 144, none, .mv (.t 23)⟩]))
def c76L1 : C := (.seq (.reg [⟨(some 18), 288, none, .bi false .lss (.t 17) (.t 16)⟩])
  (.seq (.cond (.t 18) .skip (.exit 0))
  (.seq (.block 1 (.seq (.reg [⟨(some 19), 304, none, .mv (.t 17)⟩,
    ⟨(some 8), 128, none, .mv (.t 19)⟩])
  (.seq (.reg [⟨(some 20), 320, none, .mv (.t 8)⟩,
    ⟨(some 21), 336, none, .bi false .add (.t 20) (.c (.int .i64 1))⟩,
    ⟨(some 9), 144, none, .mv (.t 21)⟩])
  (.block 2 (.loop c76L2)))))
  (.reg [⟨(some 47), 752, none, .bi false .add (.t 17) (.c (.int .i64 1))⟩,
    ⟨(some 17), 272, none, .mv (.t 47)⟩]))))
def c76 : C := (.seq (.reg [⟨(some 4), 64, none, .mv (.c (.nil 2))⟩,
    ⟨(some 5), 80, none, .mv (.c (.int .i64 0))⟩])
  (.scope (.seq (.seq (.reg [⟨(some 10), 160, none, .mv (.t 0)⟩,
    ⟨(some 11), 176, none, .call (.c (.fn (.func 62) [] [])) [(.t 10)]⟩,
    ⟨(some 6), 96, none, .mv (.t 11)⟩])
  (.seq (.reg [⟨(some 12), 192, none, .mv (.t 6)⟩,
    ⟨(some 13), 208, none, .bi false .neq (.t 12) (.c (.int .i64 0))⟩])
  (.cond (.t 13) (.seq (.reg [⟨(some 14), 224, none, .mv (.t 6)⟩,
    ⟨(some 4), 64, none, .mv (.c (.nil 2))⟩,
    ⟨(some 5), 80, none, .mv (.t 14)⟩])
  .ret) .skip)))
  (.seq (.reg [⟨(some 7), 112, none, .mv (.c (.nil 2))⟩])
  (.seq (.lab 0)
  (.seq (.seq (.reg [⟨(some 15), 240, none, .mv (.t 0)⟩,
    ⟨(some 16), 256, none, .len (.t 15)⟩,
    ⟨(some 17), 272, none, .mv (.c (.int .i64 0))⟩])
  (.block 0 (.loop c76L1)))
  (.seq (.reg [⟨(some 48), 768, none, .mv (.t 7)⟩,
    ⟨(some 4), 64, none, .mv (.t 48)⟩,
    ⟨(some 5), 80, none, .mv (.c (.int .i64 0))⟩])
  .ret)))))))
theorem fits76 : fits Tryz.prog false Tryz.f76 2 49 [(4, none), (5, none)] = some c76.er := by kernel_rfl
def c24 : C := (.seq (.reg [⟨(some 2), 32, none, .mv (.c (.nil 2))⟩,
    ⟨(some 3), 48, none, .mv (.c (.int .i64 0))⟩])
  (.seq (.reg [⟨(some 4), 64, none, .mv (.t 0)⟩,
    ⟨(some 5), 80, none, .call (.c (.fn (.func 76) [] [])) [(.t 4), (.c (.fn (.func 77) [] []))]⟩,
    ⟨(some 6), 96, none, .ex (.t 5) 0⟩,
    ⟨(some 7), 112, none, .ex (.t 5) 1⟩,
    ⟨(some 2), 32, none, .mv (.t 6)⟩,
    ⟨(some 3), 48, none, .mv (.t 7)⟩])
  .ret))
theorem fits24 : fits Tryz.prog false Tryz.f24 1 8 [(2, none), (3, none)] = some c24.er := by kernel_rfl
def lowB (k : Int) : Bool := decide (k = 1 ∨ k = 4)
theorem call199 (k : Int) : PureCall Tryz.prog 199 [.int .i64 k] [] ⟨.bool (lowB k), [], []⟩ := by
  have h : lowB k = (bif k == 1 then true else k == 4) := by
    unfold lowB
    by_cases h1 : k = 1 <;> by_cases h2 : k = 4 <;> simp [h1, h2]
  rw [h]
  refine pure_call mix Tryz.func199 fits199 rfl ?_
  conv => whnf
  refine ⟨?_, [], ?_⟩
  · exact g0
  conv => whnf
  refine ⟨rfl, ?_, trivial, trivial⟩
  all_goals repeat' (first | exact True.intro | refine leF_cons rfl ?_ ?_ | refine leS_cons rfl ?_ ?_ | (show PLe _ _ _ _; conv => whnf) | (show SLe _ _ _ _; conv => whnf) | (show PLeL _ _ _ _; conv => whnf) | apply And.intro | rfl | exact Nat.le_refl _ | exact fun _ _ => rfl | exact rowEq0 _ _)
def bothN (f u f' u' : Int) : Nat → List Int
  | 0 => []
  | n + 1 => if inSp f u n = true ∧ inSp f' u' n = true then bothN f u f' u' n ++ [(n : Int)] else bothN f u f' u' n
theorem bothN_len (f u f' u' : Int) : ∀ n, (bothN f u f' u' n).length ≤ n
  | 0 => Nat.le_refl _
  | n + 1 => by
    have := bothN_len f u f' u' n
    unfold bothN
    split
    · simp; omega
    · omega
theorem bothN_ne {f u f' u' : Int} {d : Nat} (h : inSp f u d = true ∧ inSp f' u' d = true) : ∀ n, d < n → bothN f u f' u' n ≠ []
  | 0, hd => by omega
  | n + 1, hd => by
    unfold bothN
    by_cases e : d = n
    · subst e; rw [if_pos h]; simp
    · have := bothN_ne h n (by omega)
      split
      · simp
      · exact this
def bothL (f u f' u' : Int) : List Int := bothN f u f' u' 365
set_option maxRecDepth 100000 in
set_option maxHeartbeats 4000000 in
theorem call252 (f u f' u' : Int) : PureCall Tryz.prog 252 [.agg [.int .i64 f, .int .i64 u], .agg [.int .i64 f', .int .i64 u']] [] ⟨.sl 0 1 (bothL f u f' u').length (fl eInt (bothL f u f' u')), [], []⟩ := by
  refine pure_call mix Tryz.func252 fits252 rfl ?_
  conv => whnf
  refine ⟨trivial, ?_⟩
  refine LSem.adopt 5 1000000 3 1 1 rfl rfl ?_
  refine LSem.loop (n := 24) mix (α := Nat) (fun i => i ≤ 365)
    (fun i => [(2, .pt 32 0 0), (3, .pt 48 0 0), (5, .os 1000000), (7, .int .i64 i)])
    (fun i => [(32, .box [.int .i64 f, .int .i64 u]), (48, .box [.int .i64 f', .int .i64 u']), (1000000, .row 0 3 1 (bothN f u f' u' i).length (fl eInt (bothN f u f' u' i)))]) (fun i => 365 - i) 0 ?_ ?_ ?_
  · exact Nat.zero_le _
  · refine ⟨rfl, rfl, ?_, ?_⟩
    all_goals repeat' (first | exact True.intro | refine leF_cons rfl ?_ ?_ | refine leS_cons rfl ?_ ?_ | (show PLe _ _ _ _; conv => whnf) | (show SLe _ _ _ _; conv => whnf) | (show PLeL _ _ _ _; conv => whnf) | apply And.intro | rfl | exact Nat.le_refl _ | exact fun _ _ => rfl | exact rowEq0 _ _)
  · intro i hile
    conv => whnf
    refine ⟨trivial, fun hc => ?_, fun hc => ?_⟩
    · replace hc := of_decide_eq_true hc
      have hlt : i < 365 := by omega
      have hlen := bothN_len f u f' u' i
      conv => whnf
      refine ⟨_, fun _ => call197 f u i, ?_⟩
      conv => whnf
      refine ⟨_, fun _ => call197 f' u' i, ?_⟩
      conv => whnf
      refine ⟨?_, fun hK => ?_, fun hK => ?_⟩
      · exact g0
      · have h2 : inSp f u i = true ∧ inSp f' u' i = true := by
          revert hK; cases inSp f u i <;> cases inSp f' u' i <;> simp
        have hb : bothN f u f' u' (i + 1) = bothN f u f' u' i ++ [(i : Int)] := if_pos h2
        conv => whnf
        refine ⟨?_, i + 1, hlt, ?_, rfl, rfl, ?_, ?_⟩
        · exact g0
        · omega
        all_goals repeat' (first | exact True.intro | refine leF_cons rfl ?_ ?_ | refine leS_cons rfl ?_ ?_ | (show PLe _ _ _ _; conv => whnf) | (show SLe _ _ _ _; conv => whnf) | (show PLeL _ _ _ _; conv => whnf) | apply And.intro | rfl | exact Nat.le_refl _ | exact fun _ _ => rfl | exact rowEq0 _ _)
        all_goals first | (rw [hb]; simp; done) | (rw [hb]; exact fl_push eInt _ (i : Int)) | skip
      · have h2 : ¬ (inSp f u i = true ∧ inSp f' u' i = true) := by
          revert hK; cases inSp f u i <;> cases inSp f' u' i <;> simp
        have hb : bothN f u f' u' (i + 1) = bothN f u f' u' i := if_neg h2
        conv => whnf
        refine ⟨?_, i + 1, hlt, ?_, rfl, rfl, ?_, ?_⟩
        · exact g0
        · omega
        all_goals repeat' (first | exact True.intro | refine leF_cons rfl ?_ ?_ | refine leS_cons rfl ?_ ?_ | (show PLe _ _ _ _; conv => whnf) | (show SLe _ _ _ _; conv => whnf) | (show PLeL _ _ _ _; conv => whnf) | apply And.intro | rfl | exact Nat.le_refl _ | exact fun _ _ => rfl | exact rowEq0 _ _)
        all_goals first | (rw [hb]; done) | (rw [hb]; exact fun _ _ => rfl) | skip
    · replace hc := of_decide_eq_false hc
      have : i = 365 := by omega
      subst this
      conv => whnf
      refine ⟨?_, [], ?_⟩
      · exact g0
      conv => whnf
      refine ⟨rfl, ?_, trivial, trivial⟩
      all_goals repeat' (first | exact True.intro | refine leF_cons rfl ?_ ?_ | refine leS_cons rfl ?_ ?_ | (show PLe _ _ _ _; conv => whnf) | (show SLe _ _ _ _; conv => whnf) | (show PLeL _ _ _ _; conv => whnf) | apply And.intro | rfl | exact Nat.le_refl _ | exact fun _ _ => rfl | exact rowEq0 _ _)
def meetB (a b : Cd) : Bool := decide (max a.a b.a ≤ min a.b b.b) && decide (0 < (bothL a.f a.u b.f b.u).length)
set_option maxRecDepth 100000 in
theorem call198 (a b : Cd) : PureCall Tryz.prog 198 [.agg (eCd a), .agg (eCd b)] [] ⟨.bool (meetB a b), [], []⟩ := by
  have h : meetB a b = (bif decide ((if b.a > a.a then b.a else a.a) ≤ (if b.b < a.b then b.b else a.b)) then decide (((bothL a.f a.u b.f b.u).length : Int) > 0) else false) := by
    have e1 : max a.a b.a = if b.a > a.a then b.a else a.a := by split <;> omega
    have e2 : min a.b b.b = if b.b < a.b then b.b else a.b := by split <;> omega
    unfold meetB
    rw [e1, e2]
    have e3 : decide (0 < (bothL a.f a.u b.f b.u).length) = decide (((bothL a.f a.u b.f b.u).length : Int) > 0) := by
      by_cases h : 0 < (bothL a.f a.u b.f b.u).length
      · rw [decide_eq_true h, decide_eq_true (by omega)]
      · rw [decide_eq_false h, decide_eq_false (by omega)]
    rw [e3]
    cases decide ((if b.a > a.a then b.a else a.a) ≤ (if b.b < a.b then b.b else a.b)) <;> rfl
  rw [h]
  refine pure_call mix Tryz.func198 fits198 rfl ?_
  conv => whnf
  refine ⟨_, fun _ => call252 a.f a.u b.f b.u, ?_⟩
  conv => whnf
  refine ⟨?_, [], ?_⟩
  · exact g0
  conv => whnf
  refine ⟨rfl, ?_, trivial, trivial⟩
  all_goals repeat' (first | exact True.intro | refine leF_cons rfl ?_ ?_ | refine leS_cons rfl ?_ ?_ | (show PLe _ _ _ _; conv => whnf) | (show SLe _ _ _ _; conv => whnf) | (show PLeL _ _ _ _; conv => whnf) | apply And.intro | rfl | exact Nat.le_refl _ | exact fun _ _ => rfl | exact rowEq0 _ _)
def exF (x y : Cd) : Bool × Bool :=
  if x.k = 1 ∧ y.k = 2 then (decide (x.v > y.v), decide (x.v > y.v)) else if x.k = 1 then (decide (x.v > y.v), false) else if y.k = 2 then (decide (1073741824 - x.v > y.v), false) else (false, false)
def pairF (a b : Cd) : Bool × Bool :=
  if meetB a b = false ∨ lowB a.k = lowB b.k then (false, false) else if lowB b.k = true then exF b a else exF a b
set_option maxRecDepth 100000 in
set_option maxHeartbeats 4000000 in
theorem call146 (a b : Cd) (ha : oneC a = 0) (hb : oneC b = 0) : PureCall Tryz.prog 146 [.agg (eCd a), .agg (eCd b)] [] ⟨.tup [.bool (pairF a b).1, .bool (pairF a b).2], [], []⟩ := by
  have hv : ∀ c : Cd, oneC c = 0 → 0 ≤ c.v ∧ c.v ≤ 1073741824 := fun c hc => by
    obtain ⟨_, _, h3⟩ := oneC_ok hc
    unfold badC at h3
    exact Decidable.byContradiction fun h => h3 (.inl h)
  obtain ⟨va1, va2⟩ := hv a ha
  obtain ⟨vb1, vb2⟩ := hv b hb
  refine pure_call mix Tryz.func146 fits146 rfl ?_
  conv => whnf
  refine ⟨_, fun _ => call198 a b, ?_⟩
  conv => whnf
  refine ⟨_, fun _ => call199 a.k, ?_⟩
  conv => whnf
  refine ⟨_, fun _ => call199 b.k, ?_⟩
  conv => whnf
  refine ⟨rfl, ?_⟩
  conv => whnf
  refine ⟨?_, fun hc => ?_, fun hc => ?_⟩
  · exact g0
  · have h : pairF a b = (false, false) := if_pos (by revert hc; cases meetB a b <;> cases lowB a.k <;> cases lowB b.k <;> simp)
    rw [h]
    conv => whnf
    refine ⟨?_, [], ?_⟩
    · exact g0
    conv => whnf
    refine ⟨rfl, ?_, trivial, trivial⟩
    all_goals repeat' (first | exact True.intro | refine leF_cons rfl ?_ ?_ | refine leS_cons rfl ?_ ?_ | (show PLe _ _ _ _; conv => whnf) | (show SLe _ _ _ _; conv => whnf) | (show PLeL _ _ _ _; conv => whnf) | apply And.intro | rfl | exact Nat.le_refl _ | exact fun _ _ => rfl | exact rowEq0 _ _)
  have hne : ¬ (meetB a b = false ∨ lowB a.k = lowB b.k) := by revert hc; cases meetB a b <;> cases lowB a.k <;> cases lowB b.k <;> simp
  conv => whnf
  refine ⟨_, fun _ => call199 b.k, ?_⟩
  conv => whnf
  refine ⟨?_, fun hs => ?_, fun hs => ?_⟩
  · exact g0
  · have hp : pairF a b = exF b a := (if_neg hne).trans (if_pos hs)
    rw [hp]
    conv => whnf
    refine ⟨?_, fun h1 => ?_, fun h1 => ?_⟩
    · exact g0
    · have h : exF b a = (decide (b.v > a.v), decide (b.v > a.v)) := if_pos (by simp only [bp] at h1; omega)
      rw [h]
      conv => whnf
      refine ⟨rfl, ?_⟩
      conv => whnf
      refine ⟨?_, [], ?_⟩
      · exact g0
      conv => whnf
      refine ⟨rfl, ?_, trivial, trivial⟩
      all_goals repeat' (first | exact True.intro | refine leF_cons rfl ?_ ?_ | refine leS_cons rfl ?_ ?_ | (show PLe _ _ _ _; conv => whnf) | (show SLe _ _ _ _; conv => whnf) | (show PLeL _ _ _ _; conv => whnf) | apply And.intro | rfl | exact Nat.le_refl _ | exact fun _ _ => rfl | exact rowEq0 _ _)
    have n1 : ¬ (b.k = 1 ∧ a.k = 2) := by simp only [bp] at h1; omega
    conv => whnf
    refine ⟨?_, fun h2 => ?_, fun h2 => ?_⟩
    · exact g0
    · have h : exF b a = (decide (b.v > a.v), false) := (if_neg n1).trans (if_pos (by simp only [bp] at h2; omega))
      rw [h]
      conv => whnf
      refine ⟨?_, [], ?_⟩
      · exact g0
      conv => whnf
      refine ⟨rfl, ?_, trivial, trivial⟩
      all_goals repeat' (first | exact True.intro | refine leF_cons rfl ?_ ?_ | refine leS_cons rfl ?_ ?_ | (show PLe _ _ _ _; conv => whnf) | (show SLe _ _ _ _; conv => whnf) | (show PLeL _ _ _ _; conv => whnf) | apply And.intro | rfl | exact Nat.le_refl _ | exact fun _ _ => rfl | exact rowEq0 _ _)
    have n2 : ¬ b.k = 1 := by simp only [bp] at h2; omega
    conv => whnf
    refine ⟨?_, fun h3 => ?_, fun h3 => ?_⟩
    · exact g0
    · have h : exF b a = (decide (1073741824 - b.v > a.v), false) := (if_neg n1).trans ((if_neg n2).trans (if_pos (by simp only [bp] at h3; omega)))
      rw [h]
      conv => whnf
      refine ⟨?_, [], ?_⟩
      · exact g0
      conv => whnf
      refine ⟨rfl, ?_, trivial, trivial⟩
      all_goals repeat' (first | exact True.intro | refine leF_cons rfl ?_ ?_ | refine leS_cons rfl ?_ ?_ | (show PLe _ _ _ _; conv => whnf) | (show SLe _ _ _ _; conv => whnf) | (show PLeL _ _ _ _; conv => whnf) | apply And.intro | rfl | exact Nat.le_refl _ | exact fun _ _ => rfl | exact rowEq0 _ _)
    have n3 : ¬ a.k = 2 := by simp only [bp] at h3; omega
    have h : exF b a = (false, false) := (if_neg n1).trans ((if_neg n2).trans (if_neg n3))
    rw [h]
    conv => whnf
    refine ⟨?_, [], ?_⟩
    · exact g0
    conv => whnf
    refine ⟨rfl, ?_, trivial, trivial⟩
    all_goals repeat' (first | exact True.intro | refine leF_cons rfl ?_ ?_ | refine leS_cons rfl ?_ ?_ | (show PLe _ _ _ _; conv => whnf) | (show SLe _ _ _ _; conv => whnf) | (show PLeL _ _ _ _; conv => whnf) | apply And.intro | rfl | exact Nat.le_refl _ | exact fun _ _ => rfl | exact rowEq0 _ _)
  · have hp : pairF a b = exF a b := (if_neg hne).trans (if_neg (by rw [hs]; decide))
    rw [hp]
    conv => whnf
    refine ⟨?_, fun h1 => ?_, fun h1 => ?_⟩
    · exact g0
    · have h : exF a b = (decide (a.v > b.v), decide (a.v > b.v)) := if_pos (by simp only [bp] at h1; omega)
      rw [h]
      conv => whnf
      refine ⟨rfl, ?_⟩
      conv => whnf
      refine ⟨?_, [], ?_⟩
      · exact g0
      conv => whnf
      refine ⟨rfl, ?_, trivial, trivial⟩
      all_goals repeat' (first | exact True.intro | refine leF_cons rfl ?_ ?_ | refine leS_cons rfl ?_ ?_ | (show PLe _ _ _ _; conv => whnf) | (show SLe _ _ _ _; conv => whnf) | (show PLeL _ _ _ _; conv => whnf) | apply And.intro | rfl | exact Nat.le_refl _ | exact fun _ _ => rfl | exact rowEq0 _ _)
    have n1 : ¬ (a.k = 1 ∧ b.k = 2) := by simp only [bp] at h1; omega
    conv => whnf
    refine ⟨?_, fun h2 => ?_, fun h2 => ?_⟩
    · exact g0
    · have h : exF a b = (decide (a.v > b.v), false) := (if_neg n1).trans (if_pos (by simp only [bp] at h2; omega))
      rw [h]
      conv => whnf
      refine ⟨?_, [], ?_⟩
      · exact g0
      conv => whnf
      refine ⟨rfl, ?_, trivial, trivial⟩
      all_goals repeat' (first | exact True.intro | refine leF_cons rfl ?_ ?_ | refine leS_cons rfl ?_ ?_ | (show PLe _ _ _ _; conv => whnf) | (show SLe _ _ _ _; conv => whnf) | (show PLeL _ _ _ _; conv => whnf) | apply And.intro | rfl | exact Nat.le_refl _ | exact fun _ _ => rfl | exact rowEq0 _ _)
    have n2 : ¬ a.k = 1 := by simp only [bp] at h2; omega
    conv => whnf
    refine ⟨?_, fun h3 => ?_, fun h3 => ?_⟩
    · exact g0
    · have h : exF a b = (decide (1073741824 - a.v > b.v), false) := (if_neg n1).trans ((if_neg n2).trans (if_pos (by simp only [bp] at h3; omega)))
      rw [h]
      conv => whnf
      refine ⟨?_, [], ?_⟩
      · exact g0
      conv => whnf
      refine ⟨rfl, ?_, trivial, trivial⟩
      all_goals repeat' (first | exact True.intro | refine leF_cons rfl ?_ ?_ | refine leS_cons rfl ?_ ?_ | (show PLe _ _ _ _; conv => whnf) | (show SLe _ _ _ _; conv => whnf) | (show PLeL _ _ _ _; conv => whnf) | apply And.intro | rfl | exact Nat.le_refl _ | exact fun _ _ => rfl | exact rowEq0 _ _)
    have n3 : ¬ b.k = 2 := by simp only [bp] at h3; omega
    have h : exF a b = (false, false) := (if_neg n1).trans ((if_neg n2).trans (if_neg n3))
    rw [h]
    conv => whnf
    refine ⟨?_, [], ?_⟩
    · exact g0
    conv => whnf
    refine ⟨rfl, ?_, trivial, trivial⟩
    all_goals repeat' (first | exact True.intro | refine leF_cons rfl ?_ ?_ | refine leS_cons rfl ?_ ?_ | (show PLe _ _ _ _; conv => whnf) | (show SLe _ _ _ _; conv => whnf) | (show PLeL _ _ _ _; conv => whnf) | apply And.intro | rfl | exact Nat.le_refl _ | exact fun _ _ => rfl | exact rowEq0 _ _)
theorem call77 (m a : Bool) : PureCall Tryz.prog 77 [.bool m, .bool a] [] ⟨.bool m, [], []⟩ := by
  refine pure_call mix Tryz.func77 fits77 rfl ?_
  conv => whnf
  refine ⟨?_, [], ?_⟩
  · exact g0
  conv => whnf
  refine ⟨rfl, ?_, trivial, trivial⟩
  all_goals repeat' (first | exact True.intro | refine leF_cons rfl ?_ ?_ | refine leS_cons rfl ?_ ?_ | (show PLe _ _ _ _; conv => whnf) | (show SLe _ _ _ _; conv => whnf) | (show PLeL _ _ _ _; conv => whnf) | apply And.intro | rfl | exact Nat.le_refl _ | exact fun _ _ => rfl | exact rowEq0 _ _)
def rowP (l : List Cd) (i : Nat) : Nat → List (Int × Int)
  | 0 => []
  | k + 1 => if i < k ∧ (pairF (l.getD i default) (l.getD k default)).1 = true then rowP l i k ++ [((i : Int), (k : Int))] else rowP l i k
def prsN (l : List Cd) : Nat → List (Int × Int)
  | 0 => []
  | i + 1 => prsN l i ++ rowP l i l.length
theorem rowP_low {l : List Cd} {i : Nat} : ∀ k, k ≤ i + 1 → rowP l i k = []
  | 0, _ => rfl
  | k + 1, h => by
    unfold rowP
    rw [if_neg (by omega)]
    exact rowP_low k (by omega)
theorem rowP_len {l : List Cd} {i : Nat} : ∀ k, (rowP l i k).length ≤ k
  | 0 => Nat.le_refl _
  | k + 1 => by
    have := rowP_len (l := l) (i := i) k
    unfold rowP
    split
    · simp; omega
    · omega
theorem prsN_len {l : List Cd} : ∀ i, (prsN l i).length ≤ i * l.length
  | 0 => by simp [prsN]
  | i + 1 => by
    have h1 := prsN_len (l := l) i
    have h2 := rowP_len (l := l) (i := i) l.length
    unfold prsN
    rw [List.length_append, Nat.add_mul]; omega
theorem rowP_ne {l : List Cd} {i j : Nat} (h : i < j) (hp : (pairF (l.getD i default) (l.getD j default)).1 = true) : ∀ k, j < k → rowP l i k ≠ []
  | 0, hk => by omega
  | k + 1, hk => by
    unfold rowP
    by_cases e : j = k
    · subst e; rw [if_pos ⟨h, hp⟩]; simp
    · have := rowP_ne h hp k (by omega)
      split
      · simp
      · exact this
theorem prsN_ne {l : List Cd} {i j : Nat} (h : i < j) (hj : j < l.length) (hp : (pairF (l.getD i default) (l.getD j default)).1 = true) : ∀ k, i < k → prsN l k ≠ []
  | 0, hk => by omega
  | k + 1, hk => by
    unfold prsN
    by_cases e : i = k
    · subst e
      have := rowP_ne h hp l.length hj
      simp [this]
    · have := prsN_ne h hj hp k (by omega)
      simp [this]
end Pv
end Go.Proofs.YtdcgnfkkklbckaaGreatDoor
/- TOP, THE WALKS: all pairs of conditions that may exclude one another. -/
set_option linter.unusedSimpArgs false
set_option linter.unusedVariables false
namespace Go.Proofs.YtdcgnfkkklbckaaGreatDoor
namespace Pv
theorem allC_get : ∀ {l : List Cd}, allC l = 0 → ∀ i, i < l.length → oneC (l.getD i default) = 0
  | [], _, i, hi => by simp at hi
  | c :: l, h, i, hi => by
    unfold allC at h
    by_cases hc : oneC c ≠ 0
    · rw [if_pos hc] at h; exact absurd h hc
    · rw [if_neg hc] at h
      cases i with
      | zero => simpa using hc
      | succ i =>
        have := allC_get h i (by simpa using hi)
        simpa using this
theorem limC_get {l : List Cd} (h : limC l = 0) : ∀ i, i < l.length → oneC (l.getD i default) = 0 := by
  unfold limC at h
  by_cases h2 : 200 < l.length
  · rw [if_pos h2] at h; cases h
  · rw [if_neg h2] at h; exact allC_get h
set_option maxRecDepth 100000 in
set_option maxHeartbeats 4000000 in
theorem call76 (l : List Cd) (h20 : l.length < 20) (hl : limC l = 0) :
    PureCall Tryz.prog 76 [.sl 2 7 l.length (fl eCd l), .fn (.func 77) [] []] [] ⟨.tup [.sl 0 2 (prsN l l.length).length (fl eYd (prsN l l.length)), .int .i64 0], [], []⟩ := by
  have hone := limC_get hl
  refine pure_call mix Tryz.func76 fits76 rfl ?_
  conv => whnf
  refine ⟨trivial, ?_⟩
  refine LSem.jumps (n := 49) mix (α := Unit) 0 _ rfl (fun _ => False) (fun _ => []) (fun _ => []) (fun _ => 0) ?_ (fun x hx => hx.elim)
  conv => whnf
  refine ⟨_, fun _ => call62 2 l, ?_⟩
  conv => whnf
  rw [hl]
  refine ⟨?_, fun hc => absurd hc (by decide), fun _ => ?_⟩
  · exact g0
  conv => whnf
  refine ⟨?_, ?_⟩
  · exact g0
  refine LSem.adopt 7 1000000 200 2 2 rfl rfl ?_
  refine LSem.loop (n := 49) mix (α := Nat) (fun i => i ≤ l.length)
    (fun i => [(0, .sl 2 7 l.length (fl eCd l)), (1, .fn (.func 77) [] []), (7, .os 1000000), (16, .int .i64 l.length), (17, .int .i64 i)])
    (fun i => [(1000000, .row 0 200 2 (prsN l i).length (fl eYd (prsN l i)))]) (fun i => l.length - i) 0 ?_ ?_ ?_
  · exact Nat.zero_le _
  · refine ⟨rfl, rfl, ?_, ?_⟩
    all_goals repeat' (first | exact True.intro | refine leF_cons rfl ?_ ?_ | refine leS_cons rfl ?_ ?_ | (show PLe _ _ _ _; conv => whnf) | (show SLe _ _ _ _; conv => whnf) | (show PLeL _ _ _ _; conv => whnf) | apply And.intro | rfl | exact Nat.le_refl _ | exact fun _ _ => rfl | exact rowEq0 _ _)
  · intro i hile
    conv => whnf
    refine ⟨trivial, fun hc => ?_, fun hc => ?_⟩
    · replace hc := of_decide_eq_true hc
      have hlt : i < l.length := by omega
      have hpl := prsN_len (l := l) i
      have hpl2 : (prsN l i).length ≤ 400 := Nat.le_trans hpl (Nat.le_trans (Nat.mul_le_mul (show i ≤ 20 by omega) (show l.length ≤ 20 by omega)) (by decide))
      conv => whnf
      refine ⟨?_, ?_⟩
      · exact g0
      refine LSem.loop (n := 49) mix (α := Nat) (fun k => i + 1 ≤ k ∧ k ≤ l.length)
        (fun k => [(0, .sl 2 7 l.length (fl eCd l)), (1, .fn (.func 77) [] []), (7, .os 1000000), (8, .int .i64 i), (9, .int .i64 k), (16, .int .i64 l.length), (17, .int .i64 i)])
        (fun k => [(1000000, .row 0 200 2 (prsN l i ++ rowP l i k).length (fl eYd (prsN l i ++ rowP l i k)))]) (fun k => l.length - k) (i + 1) ?_ ?_ ?_
      · exact ⟨Nat.le_refl _, hlt⟩
      · refine ⟨rfl, rfl, ?_, ?_⟩
        all_goals repeat' (first | exact True.intro | refine leF_cons rfl ?_ ?_ | refine leS_cons rfl ?_ ?_ | (show PLe _ _ _ _; conv => whnf) | (show SLe _ _ _ _; conv => whnf) | (show PLeL _ _ _ _; conv => whnf) | apply And.intro | rfl | exact Nat.le_refl _ | exact fun _ _ => rfl | exact rowEq0 _ _)
        all_goals first | (rw [rowP_low _ (Nat.le_refl _)]; simp; done) | (rw [rowP_low _ (Nat.le_refl _), List.append_nil]; exact fun _ _ => rfl) | omega | skip
      · rintro k ⟨hk1, hk2⟩
        have hj : ((i : Int)).toNat = i := by omega
        have hj2 : ((k : Int)).toNat = k := by omega
        have hrl := rowP_len (l := l) (i := i) k
        conv => whnf
        refine ⟨?_, fun hc => ?_, fun hc => ?_⟩
        · exact g0
        · simp only [bp] at hc
          have : k = l.length := by omega
          subst this
          conv => whnf
          refine ⟨?_, i + 1, hlt, ?_, rfl, rfl, ?_, ?_⟩
          · exact g0
          · omega
          all_goals repeat' (first | exact True.intro | refine leF_cons rfl ?_ ?_ | refine leS_cons rfl ?_ ?_ | (show PLe _ _ _ _; conv => whnf) | (show SLe _ _ _ _; conv => whnf) | (show PLeL _ _ _ _; conv => whnf) | apply And.intro | rfl | exact Nat.le_refl _ | exact fun _ _ => rfl | exact rowEq0 _ _)
        · simp only [bp] at hc
          have hkl : k < l.length := by omega
          conv => whnf
          refine ⟨_, fun _ => call146 (l.getD ((i : Int)).toNat default) (l.getD ((k : Int)).toNat default) (by rw [hj]; exact hone i hlt) (by rw [hj2]; exact hone k hkl), ?_⟩
          rw [hj, hj2]
          conv => whnf
          refine ⟨_, fun _ => call77 _ _, ?_⟩
          conv => whnf
          refine ⟨rfl, ?_⟩
          conv => whnf
          refine ⟨?_, fun hK => ?_, fun hK => ?_⟩
          · exact g0
          · have hr : rowP l i (k + 1) = rowP l i k ++ [((i : Int), (k : Int))] := if_pos ⟨by omega, hK⟩
            conv => whnf
            refine ⟨?_, k + 1, ⟨by omega, hkl⟩, ?_, rfl, rfl, ?_, ?_⟩
            · simp only [List.length_append]
              exact g0
            · omega
            all_goals repeat' (first | exact True.intro | refine leF_cons rfl ?_ ?_ | refine leS_cons rfl ?_ ?_ | (show PLe _ _ _ _; conv => whnf) | (show SLe _ _ _ _; conv => whnf) | (show PLeL _ _ _ _; conv => whnf) | apply And.intro | rfl | exact Nat.le_refl _ | exact fun _ _ => rfl | exact rowEq0 _ _)
            all_goals first | (rw [hr, ← List.append_assoc]; simp; done) | (rw [hr]; simp only [List.length_append, List.length_cons, List.length_nil]; omega) | (rw [hr, ← List.append_assoc]; exact fl_push eYd _ ((i : Int), (k : Int))) | skip
          · have hr : rowP l i (k + 1) = rowP l i k := if_neg (by rw [hK]; simp)
            conv => whnf
            refine ⟨?_, k + 1, ⟨by omega, hkl⟩, ?_, rfl, rfl, ?_, ?_⟩
            · exact g0
            · omega
            all_goals repeat' (first | exact True.intro | refine leF_cons rfl ?_ ?_ | refine leS_cons rfl ?_ ?_ | (show PLe _ _ _ _; conv => whnf) | (show SLe _ _ _ _; conv => whnf) | (show PLeL _ _ _ _; conv => whnf) | apply And.intro | rfl | exact Nat.le_refl _ | exact fun _ _ => rfl | exact rowEq0 _ _)
            all_goals first | (rw [hr]; done) | (rw [hr]; exact fun _ _ => rfl) | skip
    · replace hc := of_decide_eq_false hc
      have : i = l.length := by omega
      subst this
      conv => whnf
      refine ⟨?_, [], ?_⟩
      · exact g0
      conv => whnf
      refine ⟨rfl, ?_, trivial, trivial⟩
      all_goals repeat' (first | exact True.intro | refine leF_cons rfl ?_ ?_ | refine leS_cons rfl ?_ ?_ | (show PLe _ _ _ _; conv => whnf) | (show SLe _ _ _ _; conv => whnf) | (show PLeL _ _ _ _; conv => whnf) | apply And.intro | rfl | exact Nat.le_refl _ | exact fun _ _ => rfl | exact rowEq0 _ _)
theorem call24 (l : List Cd) (h20 : l.length < 20) (hl : limC l = 0) :
    PureCall Tryz.prog 24 [.sl 2 7 l.length (fl eCd l)] [] ⟨.tup [.sl 0 2 (prsN l l.length).length (fl eYd (prsN l l.length)), .int .i64 0], [], []⟩ := by
  refine pure_call mix Tryz.func24 fits24 rfl ?_
  conv => whnf
  refine ⟨_, fun _ => call76 l h20 hl, ?_⟩
  conv => whnf
  refine ⟨?_, [], ?_⟩
  · exact g0
  conv => whnf
  refine ⟨rfl, ?_, trivial, trivial⟩
  all_goals repeat' (first | exact True.intro | refine leF_cons rfl ?_ ?_ | refine leS_cons rfl ?_ ?_ | (show PLe _ _ _ _; conv => whnf) | (show SLe _ _ _ _; conv => whnf) | (show PLeL _ _ _ _; conv => whnf) | apply And.intro | rfl | exact Nat.le_refl _ | exact fun _ _ => rfl | exact rowEq0 _ _)
end Pv
end Go.Proofs.YtdcgnfkkklbckaaGreatDoor
/- TOP, THE WALKS: does a choice prove itself? -/
set_option linter.unusedSimpArgs false
set_option linter.unusedVariables false
namespace Go.Proofs.YtdcgnfkkklbckaaGreatDoor
namespace Pv
def c25L1 : C := (.seq (.reg [⟨(some 79), 1264, none, .bi false .lss (.t 78) (.t 77)⟩])
  (.seq (.cond (.t 79) .skip (.exit 0))
  (.seq (.block 1 (.seq (.reg [⟨(some 80), 1280, none, .ia 2 (.t 76) (.t 78)⟩,
    ⟨(some 81), 1296, none, .ld 2 true (.t 80)⟩,
    ⟨(some 20), 320, none, .al [(.int .i64 0), (.int .i64 0)]⟩,
    ⟨none, 0, none, .st 2 (.t 20) (.t 81)⟩])
  (.seq (.seq (.reg [⟨(some 82), 1312, none, .mv (.t 16)⟩,
    ⟨(some 83), 1328, none, .fa 0 (.t 20)⟩,
    ⟨(some 84), 1344, none, .ld 1 false (.t 83)⟩,
    ⟨(some 85), 1360, none, .call (.c (.fn (.func 78) [] [])) [(.t 82), (.t 84)]⟩,
    ⟨(some 86), 1376, none, .un false .not (.t 85)⟩,
    ⟨(some 87), 1392, none, .mv (.t 86)⟩,
    ⟨(some 88), 1408, (some (87, false)), .mv (.t 18)⟩,
    ⟨(some 89), 1424, (some (87, false)), .fa 0 (.t 20)⟩,
    ⟨(some 90), 1440, (some (87, false)), .ld 1 false (.t 89)⟩,
    ⟨(some 91), 1456, (some (87, false)), .call (.c (.fn (.func 78) [] [])) [(.t 88), (.t 90)]⟩,
    ⟨(some 92), 1472, none, .pick (.t 87) (.c (.bool true)) (.t 91)⟩])
  (.cond (.t 92) (.seq (.reg [⟨(some 12), 192, none, .mv (.c (.bool false))⟩])
  .ret) .skip))
  (.seq (.reg [⟨(some 93), 1488, none, .mv (.t 18)⟩,
    ⟨(some 94), 1504, none, .fa 0 (.t 20)⟩,
    ⟨(some 95), 1520, none, .ld 1 false (.t 94)⟩,
    ⟨(some 96), 1536, none, .bs 3 1 [(.t 95)]⟩,
    ⟨(some 97), 1552, none, .app 3 1 8 (.t 93) (.t 96)⟩,
    ⟨(some 18), 288, none, .mv (.t 97)⟩])
  (.seq (.reg [⟨(some 99), 1584, none, .mv (.t 0)⟩,
    ⟨(some 100), 1600, none, .fa 0 (.t 20)⟩,
    ⟨(some 101), 1616, none, .ld 1 false (.t 100)⟩,
    ⟨(some 102), 1632, none, .ia 7 (.t 99) (.t 101)⟩,
    ⟨(some 103), 1648, none, .ld 7 true (.t 102)⟩,
    ⟨(some 104), 1664, none, .mv (.t 3)⟩,
    ⟨(some 105), 1680, none, .call (.c (.fn (.func 79) [] [])) [(.t 103), (.t 104)]⟩,
    ⟨(some 98), 1568, none, .mv (.t 105)⟩,
    ⟨(some 106), 1696, none, .ex (.t 98) 0⟩,
    ⟨(some 107), 1712, none, .ex (.t 98) 1⟩,
    ⟨(some 21), 336, none, .al [(.int .i64 0), (.int .i64 0)]⟩,
    ⟨none, 0, none, .st 2 (.t 21) (.t 106)⟩,
    ⟨(some 22), 352, none, .mv (.t 107)⟩])
  (.seq (.seq (.reg [⟨(some 108), 1728, none, .fa 1 (.t 20)⟩,
    ⟨(some 109), 1744, none, .ld 1 false (.t 108)⟩,
    ⟨(some 110), 1760, none, .bi false .eql (.t 109) (.c (.int .i64 (-1)))⟩])
  (.cond (.t 110) (.seq (.seq (.reg [⟨(some 111), 1776, none, .ld 2 true (.t 21)⟩,
    ⟨(some 112), 1792, none, .ld 2 true (.t 10)⟩,
    ⟨(some 113), 1808, none, .call (.c (.fn (.func 80) [] [])) [(.t 111), (.t 112)]⟩,
    ⟨(some 114), 1824, none, .un false .not (.t 113)⟩])
  (.cond (.t 114) (.seq (.reg [⟨(some 12), 192, none, .mv (.c (.bool false))⟩])
  .ret) .skip))
  (.exit 1)) .skip))
  (.seq (.reg [⟨(some 115), 1840, none, .mv (.t 13)⟩,
    ⟨(some 116), 1856, none, .fa 1 (.t 20)⟩,
    ⟨(some 117), 1872, none, .ld 1 false (.t 116)⟩,
    ⟨(some 118), 1888, none, .call (.c (.fn (.func 81) [] [])) [(.t 115), (.t 117)]⟩,
    ⟨(some 23), 368, none, .mv (.t 118)⟩])
  (.seq (.seq (.reg [⟨(some 119), 1904, none, .mv (.t 23)⟩,
    ⟨(some 120), 1920, none, .bi false .lss (.t 119) (.c (.int .i64 0))⟩,
    ⟨(some 121), 1936, none, .mv (.t 120)⟩,
    ⟨(some 122), 1952, (some (121, false)), .mv (.t 23)⟩,
    ⟨(some 123), 1968, (some (121, false)), .mv (.t 13)⟩,
    ⟨(some 124), 1984, (some (121, false)), .fa 0 (.t 20)⟩,
    ⟨(some 125), 2000, (some (121, false)), .ld 1 false (.t 124)⟩,
    ⟨(some 126), 2016, (some (121, false)), .call (.c (.fn (.func 81) [] [])) [(.t 123), (.t 125)]⟩,
    ⟨(some 127), 2032, (some (121, false)), .bi false .geq (.t 122) (.t 126)⟩,
    ⟨(some 128), 2048, none, .pick (.t 121) (.c (.bool true)) (.t 127)⟩,
    ⟨(some 129), 2064, none, .mv (.t 128)⟩,
    ⟨(some 130), 2080, (some (129, false)), .mv (.t 16)⟩,
    ⟨(some 131), 2096, (some (129, false)), .fa 1 (.t 20)⟩,
    ⟨(some 132), 2112, (some (129, false)), .ld 1 false (.t 131)⟩,
    ⟨(some 133), 2128, (some (129, false)), .call (.c (.fn (.func 78) [] [])) [(.t 130), (.t 132)]⟩,
    ⟨(some 134), 2144, none, .pick (.t 129) (.c (.bool true)) (.t 133)⟩])
  (.cond (.t 134) (.seq (.reg [⟨(some 12), 192, none, .mv (.c (.bool false))⟩])
  .ret) .skip))
  (.seq (.reg [⟨(some 136), 2176, none, .mv (.t 0)⟩,
    ⟨(some 137), 2192, none, .fa 1 (.t 20)⟩,
    ⟨(some 138), 2208, none, .ld 1 false (.t 137)⟩,
    ⟨(some 139), 2224, none, .ia 7 (.t 136) (.t 138)⟩,
    ⟨(some 140), 2240, none, .ld 7 true (.t 139)⟩,
    ⟨(some 141), 2256, none, .mv (.t 3)⟩,
    ⟨(some 142), 2272, none, .call (.c (.fn (.func 79) [] [])) [(.t 140), (.t 141)]⟩,
    ⟨(some 135), 2160, none, .mv (.t 142)⟩,
    ⟨(some 143), 2288, none, .ex (.t 135) 0⟩,
    ⟨(some 144), 2304, none, .ex (.t 135) 1⟩,
    ⟨(some 24), 384, none, .al [(.int .i64 0), (.int .i64 0)]⟩,
    ⟨none, 0, none, .st 2 (.t 24) (.t 143)⟩,
    ⟨(some 25), 400, none, .mv (.t 144)⟩])
  (.seq (.reg [⟨(some 145), 2320, none, .ld 2 true (.t 21)⟩,
    ⟨(some 146), 2336, none, .ld 2 true (.t 24)⟩,
    ⟨(some 147), 2352, none, .call (.c (.fn (.func 80) [] [])) [(.t 145), (.t 146)]⟩,
    ⟨(some 148), 2368, none, .un false .not (.t 147)⟩])
  (.cond (.t 148) (.seq (.reg [⟨(some 12), 192, none, .mv (.c (.bool false))⟩])
  .ret) .skip)))))))))))
  (.reg [⟨(some 149), 2384, none, .bi false .add (.t 78) (.c (.int .i64 1))⟩,
    ⟨(some 78), 1248, none, .mv (.t 149)⟩]))))
def c25 : C := (.seq (.reg [⟨(some 10), 160, none, .bx 2 (.t 4)⟩,
    ⟨(some 11), 176, none, .bx 4 (.t 5)⟩,
    ⟨(some 12), 192, none, .mv (.c (.bool false))⟩])
  (.seq (.seq (.reg [⟨(some 26), 416, none, .mv (.t 0)⟩,
    ⟨(some 27), 432, none, .mv (.t 1)⟩,
    ⟨(some 28), 448, none, .mv (.t 2)⟩,
    ⟨(some 29), 464, none, .mv (.t 3)⟩,
    ⟨(some 30), 480, none, .ld 2 true (.t 10)⟩,
    ⟨(some 31), 496, none, .call (.c (.fn (.func 71) [] [])) [(.t 26), (.t 27), (.t 28), (.t 29), (.t 30), (.c (.int .i64 0))]⟩,
    ⟨(some 32), 512, none, .bi false .neq (.t 31) (.c (.int .i64 0))⟩,
    ⟨(some 33), 528, none, .mv (.t 32)⟩,
    ⟨(some 34), 544, (some (33, false)), .fa 0 (.t 11)⟩,
    ⟨(some 35), 560, (some (33, false)), .ld 1 false (.t 34)⟩,
    ⟨(some 36), 576, (some (33, false)), .fa 0 (.t 10)⟩,
    ⟨(some 37), 592, (some (33, false)), .ld 1 false (.t 36)⟩,
    ⟨(some 38), 608, (some (33, false)), .bi false .lss (.t 35) (.t 37)⟩,
    ⟨(some 39), 624, none, .pick (.t 33) (.c (.bool true)) (.t 38)⟩,
    ⟨(some 40), 640, none, .mv (.t 39)⟩,
    ⟨(some 41), 656, (some (40, false)), .fa 0 (.t 11)⟩,
    ⟨(some 42), 672, (some (40, false)), .ld 1 false (.t 41)⟩,
    ⟨(some 43), 688, (some (40, false)), .fa 1 (.t 10)⟩,
    ⟨(some 44), 704, (some (40, false)), .ld 1 false (.t 43)⟩,
    ⟨(some 45), 720, (some (40, false)), .bi false .gtr (.t 42) (.t 44)⟩,
    ⟨(some 46), 736, none, .pick (.t 40) (.c (.bool true)) (.t 45)⟩])
  (.cond (.t 46) (.seq (.reg [⟨(some 12), 192, none, .mv (.c (.bool false))⟩])
  .ret) .skip))
  (.seq (.reg [⟨(some 48), 768, none, .mv (.t 0)⟩,
    ⟨(some 49), 784, none, .mv (.t 1)⟩,
    ⟨(some 50), 800, none, .mv (.t 2)⟩,
    ⟨(some 51), 816, none, .call (.c (.fn (.func 74) [] [])) [(.t 48), (.t 49), (.t 50)]⟩,
    ⟨(some 47), 752, none, .mv (.t 51)⟩,
    ⟨(some 52), 832, none, .ex (.t 47) 0⟩,
    ⟨(some 53), 848, none, .ex (.t 47) 1⟩,
    ⟨(some 13), 208, none, .mv (.t 52)⟩,
    ⟨(some 14), 224, none, .mv (.t 53)⟩])
  (.seq (.reg [⟨(some 55), 880, none, .mv (.t 0)⟩,
    ⟨(some 56), 896, none, .mv (.t 1)⟩,
    ⟨(some 57), 912, none, .mv (.t 2)⟩,
    ⟨(some 58), 928, none, .mv (.t 3)⟩,
    ⟨(some 59), 944, none, .fa 0 (.t 11)⟩,
    ⟨(some 60), 960, none, .ld 1 false (.t 59)⟩,
    ⟨(some 61), 976, none, .call (.c (.fn (.func 23) [] [])) [(.t 55), (.t 56), (.t 57), (.t 58), (.t 60)]⟩,
    ⟨(some 54), 864, none, .mv (.t 61)⟩,
    ⟨(some 62), 992, none, .ex (.t 54) 0⟩,
    ⟨(some 63), 1008, none, .ex (.t 54) 1⟩,
    ⟨(some 64), 1024, none, .ex (.t 54) 2⟩,
    ⟨(some 15), 240, none, .mv (.t 62)⟩,
    ⟨(some 16), 256, none, .mv (.t 63)⟩,
    ⟨(some 17), 272, none, .mv (.t 64)⟩])
  (.seq (.seq (.reg [⟨(some 65), 1040, none, .mv (.t 17)⟩,
    ⟨(some 66), 1056, none, .bi false .neq (.t 65) (.c (.int .i64 0))⟩,
    ⟨(some 67), 1072, none, .mv (.t 66)⟩,
    ⟨(some 68), 1088, (some (67, false)), .mv (.t 16)⟩,
    ⟨(some 69), 1104, (some (67, false)), .len (.t 68)⟩,
    ⟨(some 70), 1120, (some (67, false)), .fa 3 (.t 11)⟩,
    ⟨(some 71), 1136, (some (67, false)), .ld 1 false (.t 70)⟩,
    ⟨(some 72), 1152, (some (67, false)), .len (.t 71)⟩,
    ⟨(some 73), 1168, (some (67, false)), .bi false .neq (.t 69) (.t 72)⟩,
    ⟨(some 74), 1184, none, .pick (.t 67) (.c (.bool true)) (.t 73)⟩])
  (.cond (.t 74) (.seq (.reg [⟨(some 12), 192, none, .mv (.c (.bool false))⟩])
  .ret) .skip))
  (.seq (.reg [⟨(some 18), 288, none, .mv (.c (.nil 1))⟩])
  (.seq (.seq (.reg [⟨(some 75), 1200, none, .fa 3 (.t 11)⟩,
    ⟨(some 76), 1216, none, .ld 1 false (.t 75)⟩,
    ⟨(some 77), 1232, none, .len (.t 76)⟩,
    ⟨(some 78), 1248, none, .mv (.c (.int .i64 0))⟩])
  (.block 0 (.loop c25L1)))
  (.seq (.reg [⟨(some 12), 192, none, .mv (.c (.bool true))⟩])
  .ret))))))))
theorem fits25 : fits Tryz.prog false Tryz.f25 6 150 [(12, none)] = some c25.er := by kernel_rfl
theorem call78t (τ : Nat) (l : List Int) (x : Int) (hl : l.length ≤ 4611686018427387904) (h : x ∈ l) : PureCall Tryz.prog 78 [.sl τ 1 l.length (fl eInt l), .int .i64 x] [] ⟨.bool true, [], []⟩ := by
  have := call78 τ l x hl
  rwa [decide_eq_true (idxF_iff.2 h)] at this
theorem call78f (τ : Nat) (l : List Int) (x : Int) (hl : l.length ≤ 4611686018427387904) (h : x ∉ l) : PureCall Tryz.prog 78 [.sl τ 1 l.length (fl eInt l), .int .i64 x] [] ⟨.bool false, [], []⟩ := by
  have := call78 τ l x hl
  rwa [decide_eq_false (fun h2 => h (idxF_iff.1 h2))] at this
def CdNo (l : List Cd) (x : Int) : Prop := (0 ≤ x ∧ x < l.length) ∧ oneC (l.getD x.toNat default) = 0
structure YOK (l : List Cd) (b lo hi : Int) (act vio : List Int) (seen : List Int) (y : Int × Int) : Prop where
  mem : y.1 ∈ vio
  new : y.1 ∉ seen
  no : CdNo l y.1
  out : y.2 = -1 → apartB (permF (l.getD y.1.toNat default) b).1 (permF (l.getD y.1.toNat default) b).2 lo hi = true
  by_ : y.2 ≠ -1 → CdNo l y.2 ∧ (0 ≤ idxF act y.2 ∧ idxF act y.2 < idxF act y.1) ∧ y.2 ∉ vio ∧
    apartB (permF (l.getD y.1.toNat default) b).1 (permF (l.getD y.1.toNat default) b).2 (permF (l.getD y.2.toNat default) b).1 (permF (l.getD y.2.toNat default) b).2 = true
set_option maxRecDepth 100000 in
set_option maxHeartbeats 8000000 in
theorem call25 (τ : Nat) (l : List Cd) (day level before lo hi rel cl ch : Int) (ys : List (Int × Int)) (h20 : l.length < 20) (hl : limC l = 0) (hd : wi day 364 = true) (hv : wi level 16777216 = true) (h1 : wi before 1073741824 = true)
    (h2 : wi lo 1073741824 = true) (h3 : wi hi 1073741824 = true) (h5 : lo ≤ hi) (hr : lo ≤ rel ∧ rel ≤ hi)
    (hlen : (violF l day level before rel).length = ys.length) (hok : ∀ i, i < ys.length → YOK l before lo hi (actF l day level) (violF l day level before rel) ((ys.take i).map (·.1)) (ys.getD i default)) :
    PureCall Tryz.prog 25 [.sl 2 7 l.length (fl eCd l), .int .i64 day, .int .i64 level, .int .i64 before, .agg [.int .i64 lo, .int .i64 hi], .agg [.int .i64 rel, .int .i64 cl, .int .i64 ch, .sl τ 2 ys.length (fl eYd ys)]] [] ⟨.bool true, [], []⟩ := by
  have hrel : wi rel 1073741824 = true := (wi_iff _ _).2 ⟨by have := (wi_iff _ _).1 h2; omega, by have := (wi_iff _ _).1 h3; omega⟩
  have hvl : (violF l day level before rel).length ≤ (actF l day level).length := List.length_filter_le _ _
  have hal := actF_len l day level
  refine pure_call mix Tryz.func25 fits25 rfl ?_
  conv => whnf
  refine ⟨_, fun _ => call71 2 l day level before lo hi 0 hl hd hv h1 h2 h3 (by decide) h5, ?_⟩
  conv => whnf
  refine ⟨?_, fun hc => ?_, fun _ => ?_⟩
  · exact g0
  · simp only [bp] at hc; omega
  conv => whnf
  refine ⟨_, fun _ => call74 l day level h20 hl hd hv, ?_⟩
  conv => whnf
  refine ⟨_, fun _ => call23 l day level before rel h20 hl hd hv h1 hrel, ?_⟩
  conv => whnf
  refine ⟨?_, fun hc => ?_, fun _ => ?_⟩
  · exact g0
  · simp only [bp] at hc; omega
  conv => whnf
  refine ⟨?_, ?_⟩
  · exact g0
  refine LSem.adopt 18 1000000 3 1 1 rfl rfl ?_
  generalize hvio : violF l day level before rel = vio at *
  generalize hact : actF l day level = act at *
  refine LSem.loop (n := 150) mix (α := Nat) (fun i => i ≤ ys.length)
    (fun i => [(0, .sl 2 7 l.length (fl eCd l)), (3, .int .i64 before), (10, .pt 160 0 0), (13, .os 816), (16, .sl 0 1 vio.length (fl eInt vio)), (18, .os 1000000), (76, .sl τ 2 ys.length (fl eYd ys)), (77, .int .i64 ys.length), (78, .int .i64 i)])
    (fun i => [(160, .box [.int .i64 lo, .int .i64 hi]), (816, .row 1 3 1 act.length (fl eInt act)), (1000000, .row 0 3 1 ((ys.take i).map (·.1)).length (fl eInt ((ys.take i).map (·.1))))]) (fun i => ys.length - i) 0 ?_ ?_ ?_
  · exact Nat.zero_le _
  · refine ⟨rfl, rfl, ?_, ?_⟩
    all_goals repeat' (first | exact True.intro | refine leF_cons rfl ?_ ?_ | refine leS_cons rfl ?_ ?_ | (show PLe _ _ _ _; conv => whnf) | (show SLe _ _ _ _; conv => whnf) | (show PLeL _ _ _ _; conv => whnf) | apply And.intro | rfl | exact Nat.le_refl _ | exact fun _ _ => rfl | exact rowEq0 _ _)
  · intro i hile
    have hj : ((i : Int)).toNat = i := by omega
    conv => whnf
    refine ⟨trivial, fun hc => ?_, fun hc => ?_⟩
    · replace hc := of_decide_eq_true hc
      have hlt : i < ys.length := by omega
      have hyk := hok i hlt
      have htk : (ys.take (i + 1)).map (·.1) = (ys.take i).map (·.1) ++ [(ys.getD i default).1] := by
        have e : ys.take (i + 1) = ys.take i ++ [ys.getD i default] := by
          rw [List.take_add_one, List.getD_eq_getElem?_getD, List.getElem?_eq_getElem hlt]; rfl
        rw [e, List.map_append]; rfl
      have htl : ((ys.take i).map (·.1)).length = i := by rw [List.length_map, List.length_take]; omega
      conv => whnf
      generalize hyy : ys.getD ((i : Int)).toNat default = y
      rw [hj] at hyy
      rw [hyy] at hyk htk
      generalize hsn : (ys.take i).map (·.1) = seen at *
      refine ⟨_, fun _ => call78t _ vio y.1 (by omega) hyk.mem, ?_⟩
      conv => whnf
      refine ⟨_, fun _ => call78f _ seen y.1 (by omega) hyk.new, ?_⟩
      conv => whnf
      refine ⟨?_, fun hc => absurd hc (by decide), fun _ => ?_⟩
      · exact g0
      conv => whnf
      obtain ⟨⟨hn1, hn2⟩, hn3⟩ := hyk.no
      refine ⟨_, fun _ => call79 (l.getD y.1.toNat default) before hn3 h1, ?_⟩
      conv => whnf
      refine ⟨?_, fun hc => ?_, fun hc => ?_⟩
      · exact g0
      · simp only [bp] at hc
        have hap := hyk.out hc
        conv => whnf
        refine ⟨_, fun _ => call80 (permF (l.getD y.1.toNat default) before).1 (permF (l.getD y.1.toNat default) before).2 lo hi, ?_⟩
        rw [hap]
        conv => whnf
        refine ⟨?_, fun hc => absurd hc (by decide), fun _ => ?_⟩
        · exact g0
        conv => whnf
        refine ⟨?_, i + 1, hlt, ?_, rfl, rfl, ?_, ?_⟩
        · exact g0
        · omega
        all_goals repeat' (first | exact True.intro | refine leF_cons rfl ?_ ?_ | refine leS_cons rfl ?_ ?_ | (show PLe _ _ _ _; conv => whnf) | (show SLe _ _ _ _; conv => whnf) | (show PLeL _ _ _ _; conv => whnf) | apply And.intro | rfl | exact Nat.le_refl _ | exact fun _ _ => rfl | exact rowEq0 _ _)
        all_goals first | (rw [htk]; simp; done) | (rw [htk]; exact fl_push eInt seen y.1) | skip
      · simp only [bp] at hc
        obtain ⟨⟨⟨hb1, hb2⟩, hb3⟩, ⟨hx1, hx2⟩, hnv, hap⟩ := hyk.by_ hc
        conv => whnf
        refine ⟨_, fun _ => call81 _ act y.2 (by omega), ?_⟩
        conv => whnf
        refine ⟨_, fun _ => call81 _ act y.1 (by omega), ?_⟩
        conv => whnf
        refine ⟨_, fun _ => call78f _ vio y.2 (by omega) hnv, ?_⟩
        conv => whnf
        refine ⟨?_, fun hc => ?_, fun _ => ?_⟩
        · exact g0
        · simp only [bp] at hc; omega
        conv => whnf
        refine ⟨_, fun _ => call79 (l.getD y.2.toNat default) before hb3 h1, ?_⟩
        conv => whnf
        refine ⟨_, fun _ => call80 (permF (l.getD y.1.toNat default) before).1 (permF (l.getD y.1.toNat default) before).2 (permF (l.getD y.2.toNat default) before).1 (permF (l.getD y.2.toNat default) before).2, ?_⟩
        rw [hap]
        conv => whnf
        refine ⟨?_, fun hc => absurd hc (by decide), fun _ => ?_⟩
        · exact g0
        conv => whnf
        refine ⟨?_, i + 1, hlt, ?_, rfl, rfl, ?_, ?_⟩
        · exact g0
        · omega
        all_goals repeat' (first | exact True.intro | refine leF_cons rfl ?_ ?_ | refine leS_cons rfl ?_ ?_ | (show PLe _ _ _ _; conv => whnf) | (show SLe _ _ _ _; conv => whnf) | (show PLeL _ _ _ _; conv => whnf) | apply And.intro | rfl | exact Nat.le_refl _ | exact fun _ _ => rfl | exact rowEq0 _ _)
        all_goals first | (rw [htk]; simp; done) | (rw [htk]; exact fl_push eInt seen y.1) | skip
    · replace hc := of_decide_eq_false hc
      conv => whnf
      refine ⟨?_, [], ?_⟩
      · exact g0
      conv => whnf
      refine ⟨rfl, ?_, trivial, trivial⟩
      all_goals repeat' (first | exact True.intro | refine leF_cons rfl ?_ ?_ | refine leS_cons rfl ?_ ?_ | (show PLe _ _ _ _; conv => whnf) | (show SLe _ _ _ _; conv => whnf) | (show PLeL _ _ _ _; conv => whnf) | apply And.intro | rfl | exact Nat.le_refl _ | exact fun _ _ => rfl | exact rowEq0 _ _)
end Pv
end Go.Proofs.YtdcgnfkkklbckaaGreatDoor
/- TOP, PLAIN LAW: the order by rank; what a choice leaves. -/
set_option linter.unusedSimpArgs false
set_option linter.unusedVariables false
namespace Go.Proofs.YtdcgnfkkklbckaaGreatDoor
namespace Pv
theorem sink_sorted {rk : Int → Int} {m : Nat} : ∀ (j : Nat) (g : Nat → Int), j < m → (∀ a b, a < b → b < m → a ≠ j → b ≠ j → rk (g a) ≤ rk (g b)) → (∀ b, j < b → b < m → rk (g j) ≤ rk (g b)) →
    ∀ a b, a < b → b < m → rk (sink rk g j a) ≤ rk (sink rk g j b)
  | 0, g, hj, h1, h2, a, b, hab, hb => by
    show rk (g a) ≤ rk (g b)
    by_cases ha : a = 0
    · subst ha; exact h2 b hab hb
    · exact h1 a b hab hb ha (by omega)
  | j + 1, g, hj, h1, h2, a, b, hab, hb => by
    unfold sink
    by_cases hc : rk (g (j + 1)) < rk (g j)
    · rw [if_pos hc]
      refine sink_sorted j (swp g j) (by omega) (fun a b hab hb ha hb2 => ?_) (fun b hjb hb => ?_) a b hab hb
      · unfold swp
        rw [if_neg ha, if_neg hb2]
        by_cases e1 : a = j + 1
        · rw [if_pos e1, if_neg (by omega)]
          exact h1 j b (by omega) hb (by omega) (by omega)
        · rw [if_neg e1]
          by_cases e2 : b = j + 1
          · rw [if_pos e2]; exact h1 a j (by omega) (by omega) (by omega) (by omega)
          · rw [if_neg e2]; exact h1 a b hab hb e1 e2
      · unfold swp
        rw [if_pos rfl, if_neg (by omega)]
        by_cases e2 : b = j + 1
        · rw [if_pos e2]; exact Int.le_of_lt hc
        · rw [if_neg e2]; exact h2 b (by omega) hb
    · rw [if_neg hc]
      by_cases e1 : a = j + 1
      · subst e1; exact h2 b hab hb
      · by_cases e2 : b = j + 1
        · subst e2
          by_cases e3 : a = j
          · subst e3; omega
          · have := h1 a j (by omega) (by omega) e1 (by omega)
            omega
        · exact h1 a b hab hb e1 e2
theorem insN_sorted (rk : Int → Int) (g : Nat → Int) : ∀ i a b, a < b → b < i → rk (insN rk g i a) ≤ rk (insN rk g i b)
  | 0, a, b, hab, hb => by omega
  | i + 1, a, b, hab, hb => by
    refine sink_sorted i (insN rk g i) (Nat.lt_succ_self i) (fun a b hab hb ha hb2 => ?_) (fun b h1 h2 => by omega) a b hab hb
    exact insN_sorted rk g i a b hab (by omega)
def InjN (g : Nat → Int) (m : Nat) : Prop := ∀ a b, a < m → b < m → g a = g b → a = b
theorem sink_inj {rk : Int → Int} {m : Nat} : ∀ (j : Nat) (g : Nat → Int), j < m → InjN g m → InjN (sink rk g j) m
  | 0, _, _, h => h
  | j + 1, g, hj, h => by
    unfold sink
    split
    · refine sink_inj j _ (by omega) fun a b ha hb he => ?_
      unfold swp at he
      split at he
      · split at he
        · omega
        · split at he
          · have := h (j + 1) j hj (by omega) he; omega
          · have := h (j + 1) b hj hb he; omega
      · split at he
        · split at he
          · have := h j (j + 1) (by omega) hj he; omega
          · split at he
            · omega
            · have := h j b (by omega) hb he; omega
        · split at he
          · have := h a (j + 1) ha hj he; omega
          · split at he
            · have := h a j ha (by omega) he; omega
            · exact h a b ha hb he
    · exact h
theorem insN_inj (rk : Int → Int) {g : Nat → Int} {m : Nat} (h : InjN g m) : ∀ i, i ≤ m → InjN (insN rk g i) m
  | 0, _ => h
  | i + 1, hi => sink_inj i _ (by omega) (insN_inj rk h i (by omega))
theorem keepN_pw {R : Int → Int → Prop} {p : Int → Bool} {g : Nat → Int} : ∀ n, (∀ a b, a < b → b < n → R (g a) (g b)) → (keepN p g n).Pairwise R
  | 0, _ => List.Pairwise.nil
  | n + 1, h => by
    have ih := keepN_pw (R := R) (p := p) n fun a b hab hb => h a b hab (by omega)
    unfold keepN
    split
    · exact ih
    · rw [List.pairwise_append]
      refine ⟨ih, List.pairwise_singleton _ _, fun x hx y hy => ?_⟩
      obtain ⟨k, hk, rfl, _⟩ := keepN_mem n x hx
      simp at hy
      subst hy
      exact h k n hk (Nat.lt_succ_self n)
theorem actF_rank (l : List Cd) (day level : Int) : (actF l day level).Pairwise fun a b => rkC l a ≤ rkC l b :=
  keepN_pw _ fun a b hab hb => insN_sorted _ _ _ a b hab hb
theorem actF_nodup (l : List Cd) (day level : Int) : (actF l day level).Pairwise fun a b => a ≠ b :=
  keepN_pw _ fun a b hab hb he => by
    have := insN_inj (rkC l) (g := fun k => (k : Int)) (m := l.length) (fun a b _ _ h => by have : (a : Int) = b := h; omega) l.length (Nat.le_refl _) a b (by omega) hb he
    omega
theorem actF_app {l : List Cd} {day level : Int} {x : Int} (h : x ∈ actF l day level) : CdNo l x ∧ applB (l.getD x.toNat default) day level = true := by
  obtain ⟨k, hk, hx, hp⟩ := keepN_mem _ _ h
  have ha : applB (l.getD x.toNat default) day level = true := by
    unfold goneB at hp
    cases hq : applB (l.getD x.toNat default) day level with
    | true => rfl
    | false => rw [hq] at hp; cases hp
  refine ⟨⟨by rw [hx]; exact ordF_in l k hk, ?_⟩, ha⟩
  unfold applB at ha
  refine Decidable.byContradiction fun hne => ?_
  rw [decide_eq_false hne] at ha
  simp at ha
theorem pw_get {α : Type} [Inhabited α] {R : α → α → Prop} {l : List α} (h : l.Pairwise R) {i j : Nat} (hij : i < j) (hj : j < l.length) : R (l.getD i default) (l.getD j default) := by
  rw [List.getD_eq_getElem?_getD, List.getD_eq_getElem?_getD, List.getElem?_eq_getElem hj, List.getElem?_eq_getElem (by omega)]
  exact List.pairwise_iff_getElem.1 h i j (by omega) hj hij
theorem apartB_lo {a1 a2 b1 b2 : Int} (h : a2 < b1) : apartB a1 a2 b1 b2 = true := by unfold apartB; rw [decide_eq_true_eq]; omega
theorem apartB_hi {a1 a2 b1 b2 : Int} (h : b2 < a1) : apartB a1 a2 b1 b2 = true := by unfold apartB; rw [decide_eq_true_eq]; omega
def pmF (l : List Cd) (b x : Int) : Int × Int := permF (l.getD x.toNat default) b
structure ChoOK (l : List Cd) (b lo hi : Int) (A : List Int) (n : Nat) (s : Cho) : Prop where
  le : s.lo ≤ s.hi
  lo_ : lo ≤ s.lo
  hi_ : s.hi ≤ hi
  lb : (s.lb = -1 ∧ s.lo = lo) ∨ ∃ j, j < n ∧ s.lb = A.getD j default ∧ A.getD j default ∉ s.ys.map (·.1) ∧ (pmF l b (A.getD j default)).1 = s.lo
  hb : (s.hb = -1 ∧ s.hi = hi) ∨ ∃ j, j < n ∧ s.hb = A.getD j default ∧ A.getD j default ∉ s.ys.map (·.1) ∧ (pmF l b (A.getD j default)).2 = s.hi
  kept : ∀ j, j < n → A.getD j default ∉ s.ys.map (·.1) → (pmF l b (A.getD j default)).1 ≤ s.lo ∧ s.hi ≤ (pmF l b (A.getD j default)).2
  viol : ∀ y ∈ s.ys, ∃ j, j < n ∧ y.1 = A.getD j default ∧ ((pmF l b y.1).2 < s.lo ∨ s.hi < (pmF l b y.1).1) ∧
    ((y.2 = -1 ∧ apartB (pmF l b y.1).1 (pmF l b y.1).2 lo hi = true) ∨
      ∃ i, i < j ∧ y.2 = A.getD i default ∧ A.getD i default ∉ s.ys.map (·.1) ∧ apartB (pmF l b y.1).1 (pmF l b y.1).2 (pmF l b y.2).1 (pmF l b y.2).2 = true)
  order : s.ys.map (·.1) = (A.take n).filter fun a => decide (a ∈ s.ys.map (·.1))
theorem take_succ_ {A : List Int} {n : Nat} (h : n < A.length) : A.take (n + 1) = A.take n ++ [A.getD n default] := by
  rw [List.take_add_one, List.getD_eq_getElem?_getD, List.getElem?_eq_getElem h]; rfl
theorem mem_take_getD {A : List Int} {n : Nat} (hn : n ≤ A.length) {x : Int} (h : x ∈ A.take n) : ∃ j, j < n ∧ x = A.getD j default := by
  obtain ⟨j, hj, he⟩ := List.getElem_of_mem h
  rw [List.length_take] at hj
  rw [List.getElem_take] at he
  exact ⟨j, by omega, by rw [← he, List.getD_eq_getElem?_getD, List.getElem?_eq_getElem (by omega)]; rfl⟩
theorem cho_yield {l : List Cd} {b lo hi : Int} {A : List Int} {n : Nat} {s s' : Cho} (ih : ChoOK l b lo hi A n s) (hn : n < A.length) (hnd : A.Pairwise fun a b => a ≠ b) (hlo : s'.lo = s.lo) (hhi : s'.hi = s.hi) (hlb : s'.lb = s.lb) (hhb : s'.hb = s.hb)
    (c : Int) (hys : s'.ys = s.ys ++ [(A.getD n default, c)]) (hv : (pmF l b (A.getD n default)).2 < s.lo ∨ s.hi < (pmF l b (A.getD n default)).1)
    (hc : (c = -1 ∧ apartB (pmF l b (A.getD n default)).1 (pmF l b (A.getD n default)).2 lo hi = true) ∨
      ∃ i, i < n ∧ c = A.getD i default ∧ A.getD i default ∉ s.ys.map (·.1) ∧ apartB (pmF l b (A.getD n default)).1 (pmF l b (A.getD n default)).2 (pmF l b c).1 (pmF l b c).2 = true) : ChoOK l b lo hi A (n + 1) s' := by
  have hne : ∀ j, j < n → A.getD j default ≠ A.getD n default := fun j hj => pw_get hnd hj hn
  have hys1 : s'.ys.map (·.1) = s.ys.map (·.1) ++ [A.getD n default] := by rw [hys, List.map_append]; rfl
  have hmem : ∀ j, j < n → (A.getD j default ∉ s'.ys.map (·.1) ↔ A.getD j default ∉ s.ys.map (·.1)) := fun j hj => by
    rw [hys1, List.mem_append, List.mem_singleton, not_or]
    exact ⟨fun h => h.1, fun h => ⟨h, hne j hj⟩⟩
  refine ⟨by rw [hlo, hhi]; exact ih.le, by rw [hlo]; exact ih.lo_, by rw [hhi]; exact ih.hi_, ?_, ?_, fun j hj hm => ?_, fun y hy => ?_, ?_⟩
  · rw [hlb, hlo]
    rcases ih.lb with h | ⟨j, h1, h2, h3, h4⟩
    · exact .inl h
    · exact .inr ⟨j, by omega, h2, (hmem j h1).2 h3, h4⟩
  · rw [hhb, hhi]
    rcases ih.hb with h | ⟨j, h1, h2, h3, h4⟩
    · exact .inl h
    · exact .inr ⟨j, by omega, h2, (hmem j h1).2 h3, h4⟩
  · rw [hlo, hhi]
    by_cases hjn : j = n
    · subst hjn
      rw [hys1] at hm
      exact absurd (List.mem_append.2 (.inr (List.mem_singleton.2 rfl))) hm
    · exact ih.kept j (by omega) ((hmem j (by omega)).1 hm)
  · rw [hys] at hy
    rw [hlo, hhi]
    rcases List.mem_append.1 hy with hy | hy
    · obtain ⟨j, h1, h2, h3, h4⟩ := ih.viol y hy
      refine ⟨j, by omega, h2, h3, ?_⟩
      rcases h4 with h4 | ⟨i, k1, k2, k3, k4⟩
      · exact .inl h4
      · exact .inr ⟨i, k1, k2, (hmem i (by omega)).2 k3, k4⟩
    · rw [List.mem_singleton] at hy
      subst hy
      refine ⟨n, Nat.lt_succ_self n, rfl, hv, ?_⟩
      rcases hc with hc | ⟨i, k1, k2, k3, k4⟩
      · exact .inl hc
      · exact .inr ⟨i, k1, k2, (hmem i k1).2 k3, k4⟩
  · rw [take_succ_ hn, List.filter_append, hys1]
    have e1 : (A.take n).filter (fun a => decide (a ∈ s.ys.map (·.1) ++ [A.getD n default])) = (A.take n).filter fun a => decide (a ∈ s.ys.map (·.1)) := by
      refine List.filter_congr fun x hx => ?_
      obtain ⟨j, hj, rfl⟩ := mem_take_getD (by omega) hx
      rw [decide_eq_decide, List.mem_append, List.mem_singleton]
      exact ⟨fun h => h.resolve_right (hne j hj), .inl⟩
    rw [e1, ← ih.order]
    simp
theorem cho_keep {l : List Cd} {b lo hi : Int} {A : List Int} {n : Nat} {s s' : Cho} (ih : ChoOK l b lo hi A n s) (hn : n < A.length) (hnd : A.Pairwise fun a b => a ≠ b) (hpm : (pmF l b (A.getD n default)).1 ≤ (pmF l b (A.getD n default)).2)
    (h1 : ¬ (pmF l b (A.getD n default)).2 < s.lo) (h2 : ¬ s.hi < (pmF l b (A.getD n default)).1) (hys : s'.ys = s.ys)
    (hlo : s'.lo = if s.lo < (pmF l b (A.getD n default)).1 then (pmF l b (A.getD n default)).1 else s.lo) (hlb : s'.lb = if s.lo < (pmF l b (A.getD n default)).1 then A.getD n default else s.lb)
    (hhi : s'.hi = if (pmF l b (A.getD n default)).2 < s.hi then (pmF l b (A.getD n default)).2 else s.hi) (hhb : s'.hb = if (pmF l b (A.getD n default)).2 < s.hi then A.getD n default else s.hb) : ChoOK l b lo hi A (n + 1) s' := by
  have hne : ∀ j, j < n → A.getD j default ≠ A.getD n default := fun j hj => pw_get hnd hj hn
  have hna : A.getD n default ∉ s.ys.map (·.1) := by
    intro hm
    obtain ⟨y, hy, he⟩ := List.mem_map.1 hm
    obtain ⟨j, hj, he2, _⟩ := ih.viol y hy
    exact hne j hj (by rw [← he2]; exact he)
  have hle := ih.le
  have hl1 : s.lo ≤ s'.lo := by rw [hlo]; split <;> omega
  have hh1 : s'.hi ≤ s.hi := by rw [hhi]; split <;> omega
  refine ⟨?_, Int.le_trans ih.lo_ hl1, Int.le_trans hh1 ih.hi_, ?_, ?_, fun j hj hm => ?_, fun y hy => ?_, ?_⟩
  · rw [hlo, hhi]; split <;> split <;> omega
  · rw [hlb, hlo, hys]
    by_cases hc : s.lo < (pmF l b (A.getD n default)).1
    · rw [if_pos hc, if_pos hc]
      exact .inr ⟨n, Nat.lt_succ_self n, rfl, hna, rfl⟩
    · rw [if_neg hc, if_neg hc]
      rcases ih.lb with h | ⟨j, k1, k2, k3, k4⟩
      · exact .inl h
      · exact .inr ⟨j, by omega, k2, k3, k4⟩
  · rw [hhb, hhi, hys]
    by_cases hc : (pmF l b (A.getD n default)).2 < s.hi
    · rw [if_pos hc, if_pos hc]
      exact .inr ⟨n, Nat.lt_succ_self n, rfl, hna, rfl⟩
    · rw [if_neg hc, if_neg hc]
      rcases ih.hb with h | ⟨j, k1, k2, k3, k4⟩
      · exact .inl h
      · exact .inr ⟨j, by omega, k2, k3, k4⟩
  · rw [hys] at hm
    by_cases hjn : j = n
    · subst hjn
      rw [hlo, hhi]
      constructor <;> split <;> omega
    · have := ih.kept j (by omega) hm
      omega
  · rw [hys] at hy ⊢
    obtain ⟨j, k1, k2, k3, k4⟩ := ih.viol y hy
    exact ⟨j, by omega, k2, by omega, k4⟩
  · rw [hys, take_succ_ hn, List.filter_append, ← ih.order]
    rw [List.filter_cons_of_neg (by simpa using hna)]
    simp
theorem choN_ok {l : List Cd} {b lo hi : Int} {A : List Int} (hle : lo ≤ hi) (hnd : A.Pairwise fun a b => a ≠ b) (hpm : ∀ j, j < A.length → (pmF l b (A.getD j default)).1 ≤ (pmF l b (A.getD j default)).2) :
    ∀ n, n ≤ A.length → ChoOK l b lo hi A n (choN l b lo hi A n)
  | 0, _ => ⟨hle, Int.le_refl _, Int.le_refl _, .inl ⟨rfl, rfl⟩, .inl ⟨rfl, rfl⟩, fun j hj => by omega, fun y hy => (by cases hy), rfl⟩
  | n + 1, hn => by
    have ih := choN_ok hle hnd hpm n (by omega)
    show ChoOK l b lo hi A (n + 1) (choS l b (choN l b lo hi A n) (A.getD n default))
    generalize choN l b lo hi A n = s at ih
    have e : permF (l.getD (A.getD n default).toNat default) b = pmF l b (A.getD n default) := rfl
    unfold choS
    rw [e]
    by_cases hA : (pmF l b (A.getD n default)).2 < s.lo
    · rw [if_pos hA]
      refine cho_yield ih hn hnd rfl rfl rfl rfl s.lb rfl (.inl hA) ?_
      rcases ih.lb with ⟨h1, h2⟩ | ⟨j, k1, k2, k3, k4⟩
      · exact .inl ⟨h1, apartB_lo (by omega)⟩
      · exact .inr ⟨j, k1, k2, k3, apartB_lo (by rw [k2, k4]; exact hA)⟩
    · rw [if_neg hA]
      by_cases hB : s.hi < (pmF l b (A.getD n default)).1
      · rw [if_pos hB]
        refine cho_yield ih hn hnd rfl rfl rfl rfl s.hb rfl (.inr hB) ?_
        rcases ih.hb with ⟨h1, h2⟩ | ⟨j, k1, k2, k3, k4⟩
        · exact .inl ⟨h1, apartB_hi (by omega)⟩
        · exact .inr ⟨j, k1, k2, k3, apartB_hi (by rw [k2, k4]; exact hB)⟩
      · rw [if_neg hB]
        exact cho_keep ih hn hnd (hpm n hn) hA hB rfl rfl rfl rfl rfl
end Pv
end Go.Proofs.YtdcgnfkkklbckaaGreatDoor
/- TOP, PLAIN LAW: a choice proves itself; where no conditions exclude one another all are kept. -/
set_option linter.unusedSimpArgs false
set_option linter.unusedVariables false
namespace Go.Proofs.YtdcgnfkkklbckaaGreatDoor
namespace Pv
theorem perm_rng {c : Cd} {b : Int} (hc : oneC c = 0) (hb : wi b 1073741824 = true) : (permF c b).1 ≤ (permF c b).2 ∧ 0 ≤ (permF c b).1 ∧ (permF c b).2 ≤ 1073741824 := by
  obtain ⟨_, h2, h3⟩ := oneC_ok hc
  have hb2 := (wi_iff _ _).1 hb
  unfold badC at h3
  have hv : 0 ≤ c.v ∧ c.v ≤ 1073741824 := Decidable.byContradiction fun h => h3 (.inl h)
  unfold permF
  split
  · dsimp only; omega
  · split
    · dsimp only; omega
    · split <;> (dsimp only; omega)
theorem ex_may {x y : Cd} {b : Int} (hx : oneC x = 0) (hy : oneC y = 0) (hb : wi b 1073741824 = true) (h : (permF y b).2 < (permF x b).1) : lowB x.k = true ∧ lowB y.k = false ∧ (exF x y).1 = true := by
  have rx := perm_rng hx hb
  have ry := perm_rng hy hb
  obtain ⟨_, x2, x3⟩ := oneC_ok hx
  obtain ⟨_, y2, y3⟩ := oneC_ok hy
  have hb2 := (wi_iff _ _).1 hb
  unfold badC at x3 y3
  have hvx : 0 ≤ x.v ∧ x.v ≤ 1073741824 := Decidable.byContradiction fun h => x3 (.inl h)
  have hvy : 0 ≤ y.v ∧ y.v ≤ 1073741824 := Decidable.byContradiction fun h => y3 (.inl h)
  have hkx : x.k = 1 ∨ x.k = 2 ∨ x.k = 3 ∨ x.k = 4 := by omega
  have hky : y.k = 1 ∨ y.k = 2 ∨ y.k = 3 ∨ y.k = 4 := by omega
  rcases hkx with e | e | e | e
  · have px : permF x b = (x.v, 1073741824) := by simp [permF, e]
    rcases hky with e' | e' | e' | e'
    · have py : permF y b = (y.v, 1073741824) := by simp [permF, e']
      rw [px, py] at h; dsimp only at h; omega
    · have py : permF y b = (0, y.v) := by simp [permF, e']
      rw [px, py] at h; dsimp only at h
      exact ⟨by simp [lowB, e], by simp [lowB, e'], by simp [exF, e, e']; omega⟩
    · have py : permF y b = (0, min (b + y.v) 1073741824) := by simp [permF, e']
      rw [px, py] at h; dsimp only at h
      exact ⟨by simp [lowB, e], by simp [lowB, e'], by simp [exF, e, e']; omega⟩
    · have py : permF y b = (max (b - y.v) 0, 1073741824) := by simp [permF, e']
      rw [px, py] at h; dsimp only at h; omega
  · have px : permF x b = (0, x.v) := by simp [permF, e]
    rw [px] at h; dsimp only at h; omega
  · have px : permF x b = (0, min (b + x.v) 1073741824) := by simp [permF, e]
    rw [px] at h; dsimp only at h; omega
  · have px : permF x b = (max (b - x.v) 0, 1073741824) := by simp [permF, e]
    rcases hky with e' | e' | e' | e'
    · have py : permF y b = (y.v, 1073741824) := by simp [permF, e']
      rw [px, py] at h; dsimp only at h; omega
    · have py : permF y b = (0, y.v) := by simp [permF, e']
      rw [px, py] at h; dsimp only at h
      exact ⟨by simp [lowB, e], by simp [lowB, e'], by simp [exF, e, e']; omega⟩
    · have py : permF y b = (0, min (b + y.v) 1073741824) := by simp [permF, e']
      rw [px, py] at h; dsimp only at h; omega
    · have py : permF y b = (max (b - y.v) 0, 1073741824) := by simp [permF, e']
      rw [px, py] at h; dsimp only at h; omega
theorem appl_in {c : Cd} {day level : Int} (h : applB c day level = true) : inSp c.f c.u day = true ∧ c.a ≤ level ∧ level ≤ c.b := by
  unfold applB at h
  cases h1 : decide (oneC c = 0) <;> cases h2 : inSp c.f c.u day <;> cases h3 : decide (c.a ≤ level) <;> cases h4 : decide (level ≤ c.b) <;> rw [h1, h2, h3, h4] at h <;> simp at h
  exact ⟨rfl, of_decide_eq_true h3, of_decide_eq_true h4⟩
theorem meet_of {x y : Cd} {day level : Int} (hx : applB x day level = true) (hy : applB y day level = true) : meetB x y = true := by
  obtain ⟨x1, x2, x3⟩ := appl_in hx
  obtain ⟨y1, y2, y3⟩ := appl_in hy
  unfold meetB
  have hd : wi day 364 = true := by
    unfold inSp at x1
    cases hw : wi day 364 with
    | true => rfl
    | false => rw [hw] at x1; simp at x1
  have hd2 := (wi_iff _ _).1 hd
  have e : day = (day.toNat : Int) := by omega
  rw [e] at x1 y1
  have := bothN_ne ⟨x1, y1⟩ 365 (by omega)
  rw [Bool.and_eq_true, decide_eq_true_eq, decide_eq_true_eq]
  refine ⟨by omega, ?_⟩
  exact List.length_pos_iff.2 this
theorem conflict_ne {l : List Cd} {day level b x y : Int} (hb : wi b 1073741824 = true) (hx : x ∈ actF l day level) (hy : y ∈ actF l day level) (h : (pmF l b y).2 < (pmF l b x).1) : prsN l l.length ≠ [] := by
  obtain ⟨⟨⟨x1, x2⟩, x3⟩, x4⟩ := actF_app hx
  obtain ⟨⟨⟨y1, y2⟩, y3⟩, y4⟩ := actF_app hy
  obtain ⟨k1, k2, k3⟩ := ex_may x3 y3 hb h
  have hne : x.toNat ≠ y.toNat := by
    intro e
    rw [e] at k1; rw [k1] at k2; cases k2
  rcases Nat.lt_or_ge x.toNat y.toNat with hlt | hge
  · refine prsN_ne hlt (by omega) ?_ l.length (by omega)
    have hm := meet_of x4 y4
    unfold pairF
    rw [if_neg (by rw [hm, k1, k2]; simp), if_neg (by rw [k2]; simp)]
    exact k3
  · refine prsN_ne (show y.toNat < x.toNat by omega) (by omega) ?_ l.length (by omega)
    have hm := meet_of y4 x4
    unfold pairF
    rw [if_neg (by rw [hm, k1, k2]; simp), if_pos k1]
    exact k3
theorem actF_mem {l : List Cd} {day level : Int} {j : Nat} (h : j < (actF l day level).length) : (actF l day level).getD j default ∈ actF l day level := getD_mem h
theorem cho_all {l : List Cd} {day level b lo hi : Int} (hb : wi b 1073741824 = true) (hle : lo ≤ hi) : ∀ n, n ≤ (actF l day level).length → ChoOK l b lo hi (actF l day level) n (choN l b lo hi (actF l day level) n) :=
  choN_ok hle (actF_nodup l day level) fun j hj => (perm_rng (actF_app (actF_mem hj)).1.2 hb).1
theorem cho_none {l : List Cd} {day level b : Int} (hb : wi b 1073741824 = true) (hp : prsN l l.length = []) : ∀ n, n ≤ (actF l day level).length → (choN l b 0 1073741824 (actF l day level) n).ys = []
  | 0, _ => rfl
  | n + 1, hn => by
    have ih := cho_none (day := day) (level := level) hb hp n (by omega)
    have ok := cho_all (l := l) (day := day) (level := level) (lo := 0) (hi := 1073741824) hb (by decide) n (by omega)
    show (choS l b (choN l b 0 1073741824 (actF l day level) n) ((actF l day level).getD n default)).ys = []
    have hm := actF_mem (l := l) (day := day) (level := level) (j := n) (by omega)
    have hr := perm_rng (actF_app hm).1.2 hb
    unfold choS
    rw [if_neg, if_neg]
    · exact ih
    · intro h
      rcases ok.hb with ⟨_, e⟩ | ⟨j, k1, _, _, k4⟩
      · rw [e] at h; omega
      · exact conflict_ne hb hm (actF_mem (show j < _ by omega)) (by rw [k4]; exact h) hp
    · intro h
      rcases ok.lb with ⟨_, e⟩ | ⟨j, k1, _, _, k4⟩
      · rw [e] at h; omega
      · exact conflict_ne hb (actF_mem (show j < _ by omega)) hm (by rw [k4]; exact h) hp
theorem rel_in {s : Cho} (h : s.lo ≤ s.hi) (w : Int) : s.lo ≤ relF s w ∧ relF s w ≤ s.hi := by
  unfold relF clampF
  split
  · omega
  · split <;> omega
theorem keeps_iff {c : Cd} {b r : Int} : keepsB c b r = true ↔ (permF c b).1 ≤ r ∧ r ≤ (permF c b).2 := by
  unfold keepsB
  by_cases h1 : (permF c b).1 ≤ r <;> by_cases h2 : r ≤ (permF c b).2 <;> simp [h1, h2]
theorem viol_eq {l : List Cd} {day level b lo hi r : Int} {s : Cho} (ok : ChoOK l b lo hi (actF l day level) (actF l day level).length s) (hr : s.lo ≤ r ∧ r ≤ s.hi) : violF l day level b r = s.ys.map (·.1) := by
  have ho := ok.order
  rw [List.take_length] at ho
  rw [ho]
  unfold violF
  refine List.filter_congr fun x hx => ?_
  obtain ⟨j, hj, he⟩ := List.getElem_of_mem hx
  have hxj : x = (actF l day level).getD j default := by rw [← he, List.getD_eq_getElem?_getD, List.getElem?_eq_getElem hj]; rfl
  by_cases hm : x ∈ s.ys.map (·.1)
  · rw [decide_eq_true hm]
    obtain ⟨y, hy, rfl⟩ := List.mem_map.1 hm
    obtain ⟨_, _, _, hv, _⟩ := ok.viol y hy
    cases hk : keepsB (l.getD y.1.toNat default) b r with
    | false => rfl
    | true =>
      have := keeps_iff.1 hk
      unfold pmF at hv
      omega
  · rw [decide_eq_false hm]
    have hk := ok.kept j hj (by rw [← hxj]; exact hm)
    rw [← hxj] at hk
    have : keepsB (l.getD x.toNat default) b r = true := keeps_iff.2 (by unfold pmF at hk; omega)
    rw [this]; rfl
theorem idxF_get {A : List Int} (hnd : A.Pairwise fun a b => a ≠ b) {j : Nat} (hj : j < A.length) : idxF A (A.getD j default) = j := by
  have h0 : 0 ≤ idxF A (A.getD j default) := idxF_iff.2 (getD_mem hj)
  unfold idxF at h0 ⊢
  obtain ⟨k, h1, _, h2, h3, h4⟩ := ixF_pos h0
  have he : A.getD j default = A.getD k default := by simpa using h3
  rw [h1]
  rcases Nat.lt_trichotomy k j with h | h | h
  · exact absurd he.symm (pw_get hnd h hj)
  · rw [h]
  · exact absurd he (pw_get hnd h (by omega))
theorem yok_of {l : List Cd} {day level b lo hi r : Int} {s : Cho} (ok : ChoOK l b lo hi (actF l day level) (actF l day level).length s) (hr : s.lo ≤ r ∧ r ≤ s.hi) {i : Nat} (hi_ : i < s.ys.length) :
    YOK l b lo hi (actF l day level) (violF l day level b r) ((s.ys.take i).map (·.1)) (s.ys.getD i default) := by
  have hnd := actF_nodup l day level
  have hm : s.ys.getD i default ∈ s.ys := getD_mem hi_
  obtain ⟨j, hj, he, hv, hb⟩ := ok.viol _ hm
  have hnd2 : (s.ys.map (·.1)).Pairwise fun a b => a ≠ b := by rw [ok.order, List.take_length]; exact hnd.filter _
  have hno : CdNo l (s.ys.getD i default).1 := by rw [he]; exact (actF_app (actF_mem hj)).1
  refine ⟨?_, ?_, hno, fun h => ?_, fun h => ?_⟩
  · rw [viol_eq ok hr]; exact List.mem_map_of_mem hm
  · intro hx
    rw [List.map_take] at hx
    obtain ⟨k, hk, hke⟩ := mem_take_getD (by rw [List.length_map]; omega) hx
    have hg : (s.ys.map (·.1)).getD i default = (s.ys.getD i default).1 := by
      rw [List.getD_eq_getElem?_getD, List.getElem?_map, List.getD_eq_getElem?_getD, List.getElem?_eq_getElem hi_]; rfl
    have := pw_get hnd2 hk (by rw [List.length_map]; exact hi_)
    rw [hg] at this
    exact this hke.symm
  · rcases hb with ⟨_, hb⟩ | ⟨k, k1, k2, _⟩
    · exact hb
    · have := (actF_app (actF_mem (l := l) (day := day) (level := level) (j := k) (by omega))).1.1
      rw [← k2] at this; omega
  · rcases hb with ⟨hb, _⟩ | ⟨k, k1, k2, k3, k4⟩
    · exact absurd hb h
    · refine ⟨by rw [k2]; exact (actF_app (actF_mem (by omega))).1, ?_, ?_, k4⟩
      · rw [k2, he, idxF_get hnd (by omega), idxF_get hnd hj]; omega
      · rw [viol_eq ok hr, k2]; exact k3
theorem kept_of {l : List Cd} {day level b lo hi r : Int} {s : Cho} (ok : ChoOK l b lo hi (actF l day level) (actF l day level).length s) (hr : s.lo ≤ r ∧ r ≤ s.hi) {y : Int × Int} (hy : y ∈ s.ys) (h : y.2 ≠ -1) :
    CdNo l y.1 ∧ CdNo l y.2 ∧ y.2 ∈ keptF l day level b r ∧ rkC l y.2 ≤ rkC l y.1 := by
  obtain ⟨j, hj, he, hv, hb⟩ := ok.viol _ hy
  rcases hb with ⟨hb, _⟩ | ⟨k, k1, k2, k3, k4⟩
  · exact absurd hb h
  · refine ⟨by rw [he]; exact (actF_app (actF_mem hj)).1, by rw [k2]; exact (actF_app (actF_mem (by omega))).1, ?_, ?_⟩
    · unfold keptF
      rw [List.mem_filter]
      refine ⟨by rw [k2]; exact actF_mem (by omega), keeps_iff.2 ?_⟩
      have hk := ok.kept k (by omega) k3
      rw [← k2] at hk
      unfold pmF at hk
      omega
    · rw [k2, he]
      exact pw_get (actF_rank l day level) k1 hj
end Pv
end Go.Proofs.YtdcgnfkkklbckaaGreatDoor
/- CALLS THAT WRITE INTO A SLICE OF THE CALLER's OWN (numbers, one cell each): a rule for a region that begins with one. -/
set_option linter.unusedSimpArgs false
set_option linter.unusedVariables false
namespace Go.Proofs.YtdcgnfkkklbckaaGreatDoor
namespace Pv
open Go.RowKit
def IntsIn (w : World) (g : Nat) (T : TypeId) (cap : Nat) (l : List Int) : Prop :=
  ∃ (cur : Array Value) (fz : Nat × Nat), w.heap[g]? = some (.cells cur T fz) ∧ fzOff cur.size fz ∧ l.length ≤ cap ∧ cap ≤ maxLen ∧ cur.size = cap * 1 ∧ cur.toList.take (l.length * 1) = l.map (Value.int .i64)
def InPlace (P : Program) (F : FuncId) (l l' : List Int) (back : Bool) : Prop :=
  (∃ fn, P.funcs[F]? = some fn ∧ fn.body.isSome = true ∧ (fn.name == "runtime.NumGoroutine") = false) ∧
  ∀ (w : World) (g cap : Nat) (T : TypeId), IntsIn w g T cap l → Calls P F #[.slice (some ⟨g, 0, none⟩) l.length cap] w fun e w' =>
    e = .returned (if back then .slice (some ⟨g, 0, none⟩) l'.length cap else .tuple #[]) ∧ Keeps (· = g) w w' ∧ IntsIn w' g T cap l'
section
variable {P : Program} {X : Cx} {γ : Gh} {w w0 : World} {may : Nat → Prop} {a : Act} {s : PS}
theorem call_wp {wr : Bool} {o : Oper} {F : FuncId} {y : A} {p : PV} {K : Act → World → Prop} {Q : Exit → Act → World → Prop} {R : Value → World → Prop}
    (hR : Rel X w0 may a w s γ) (hc : compI P wr o = some (.call (.c (.fn (.func F) [] [])) [y])) (hv : A.val s.fr y = some p)
    (hfn : ∃ fn, P.funcs[F]? = some fn ∧ fn.body.isSome = true ∧ (fn.name == "runtime.NumGoroutine") = false)
    (hC : ∀ v, Rep X γ w p v → Calls P F #[v] w fun e w' => ∃ u, e = .returned u ∧ R u w') (hK : ∀ u w', R u w' → K (a.put o.dst u) w') : o.wp P a w K Q := by
  have H := eval_opd hR
  have hcall : ∃ cl f y' ys, o.op = .call cl ∧ cl.callee = .value f ∧ arg f = some y' ∧ mapO (fun (q : Operand × TypeId) => argT P q.2 q.1) (cl.args.toList.zip cl.argTypes.toList) = some ys ∧ cl.args.size = cl.argTypes.size ∧ y' = .c (.fn (.func F) [] []) ∧ ys = [y] := by
    revert hc
    unfold compI
    intro hc
    repeat' (split at hc)
    all_goals first
      | (cases hc; done)
      | (injection hc with hc; injection hc; done)
      | (obtain ⟨y, hy, hh⟩ := Option.map_eq_some_iff.1 hc; cases hh; done)
      | (injection hc with hc; injection hc with e1 e2
         rename_i _ cl hop _ f hcal _ _ y' ys hy hys hsz
         exact ⟨_, _, _, _, hop, hcal, hy, hys, by simpa using hsz, e1, e2⟩)
  obtain ⟨cl, f, y', ys, hop, hcal, hy, hys, hsz, rfl, rfl⟩ := hcall
  have hz : (cl.args.toList.zip cl.argTypes.toList).map (fun q => a.eval q.1) = (cl.args.map a.eval).toList := by
    have hl : cl.args.toList.length = cl.argTypes.toList.length := by simpa using hsz
    have h1 : (cl.args.toList.zip cl.argTypes.toList).map (fun q => q.1) = cl.args.toList := List.map_fst_zip (by omega)
    rw [show (fun q : Operand × TypeId => a.eval q.1) = a.eval ∘ (fun q => q.1) from rfl, ← List.map_map, h1]
    simp
  have hr1 : Rep X γ w (.fn (.func F) [] []) (a.eval f) := arg_rep H hy (by rfl)
  have hr2 : RepL X γ w [p] (cl.args.map a.eval).toList := by
    have := argsT_rep (P := P) (α := Operand × TypeId) H (fun q => q.2) (fun q => q.1) (xs := cl.args.toList.zip cl.argTypes.toList) (ys := [y]) (ps := [p]) hys (by simp only [valL, hv])
    rwa [hz] at this
  obtain ⟨v, us, hvs, hrv, hrus⟩ := hr2.cons_inv
  have hus := hrus.nil_inv
  subst hus
  obtain ⟨fn, hfn1, hbody, hname⟩ := hfn
  have hfe : ∀ fv, Rep X γ w (.fn (.func F) [] []) fv → fv = .func (.func F) #[] #[] := by
    intro fv h
    cases h with
    | fn _ _ _ vs us hvl hul h h' =>
      have e1 : vs = [] := List.eq_nil_of_length_eq_zero hvl
      have e2 : us = [] := List.eq_nil_of_length_eq_zero hul
      subst e1 e2
      rfl
  have hfe := hfe _ hr1
  have hrun : (execOp a.eval o).run P w = .ok (.enter F #[v]) w := by
    unfold execOp
    rw [hop]
    have hb : fn.body ≠ none := by intro h; rw [h] at hbody; cases hbody
    have hnm : fn.name ≠ "runtime.NumGoroutine" := by simpa using hname
    have hav : cl.args.map a.eval = #[v] := by rw [← Array.toList_inj, hvs]
    simp [resolve, hcal, hfe, Deferred.ofValue, invoke, callFunc, hfn1, hb, hnm, hav]
  unfold Oper.wp
  rw [hrun]
  simp only [Oper.upon]
  refine (hC v hrv).mono ?_
  rintro e w' ⟨u, rfl, hu⟩
  exact hK u w' hu
/-! ### a row of numbers -/
theorem row_ints {ge : GE} {τ e : Nat} {f : Nat → List PV} {l : List Int} (h : RepS X γ w ge (.row τ e 1 l.length f)) (hf : RowEq l.length f (fl (fun n : Int => [PV.int .i64 n]) l)) (hl : 0 < l.length) :
    ∃ g cap, ge.hdr = .slice (some ⟨g, 0, none⟩) l.length cap ∧ ge.blk = some g ∧ ge.z = 1 ∧ IntsIn w g e cap l := by
  obtain ⟨vs, h1, h2, h3, h4, h5⟩ := h.rows
  have hvs : vs = l.map (Value.int .i64) := by
    refine List.ext_getElem? fun j => ?_
    have hlen : vs.length = l.length := by rw [h5.len, Nat.mul_one]
    by_cases hj : j < l.length
    · have hc : (f j)[0]? = some (.int .i64 (l.getD j default)) := by rw [hf j hj]; rfl
      have hu : vs[j]? = some (vs[j]'(by omega)) := List.getElem?_eq_getElem (by omega)
      have := h5.rep j 0 _ (vs[j]'(by omega)) hj hc (by rw [Nat.mul_one, Nat.add_zero]; exact hu)
      have hi : vs[j]'(by omega) = .int .i64 (l.getD j default) := by
        have h6 : Rep X γ w (.int .i64 (l.getD j default)) (vs[j]'(by omega)) := this
        exact h6.int_inv
      rw [hu, hi, List.getElem?_map, getD_some hj]; rfl
    · rw [List.getElem?_eq_none (by omega), List.getElem?_eq_none (by simp; omega)]
  subst hvs
  rcases h4.2 with ⟨_, h0⟩ | ⟨g, cap, cur, fz, hh, hg, hfz, hnc, hcm, hsz, htk⟩
  · omega
  · exact ⟨g, cap, hh, by rw [h2, hh]; rfl, h1, cur, fz, hg, hfz, hnc, hcm, hsz, htk⟩
theorem ints_row {w' : World} {γ' : Gh} {e g cap : Nat} {l : List Int} (h : IntsIn w' g e cap l) :
    RepS X γ' w' ⟨some g, .slice (some ⟨g, 0, none⟩) l.length cap, 1⟩ (.row 0 e 1 l.length (fl (fun n : Int => [PV.int .i64 n]) l)) := by
  obtain ⟨cur, fz, hg, hfz, hnc, hcm, hsz, htk⟩ := h
  refine ⟨l.map (Value.int .i64), rfl, rfl, rfl, ⟨by simp, .inr ⟨g, cap, cur, fz, rfl, hg, hfz, hnc, hcm, hsz, htk⟩⟩, fun u hu => ?_, fun i hi => rfl, fun i hi c hc => ?_, fun i j c u hi hc hu => ?_⟩
  · obtain ⟨n, _, rfl⟩ := List.mem_map.1 hu; rfl
  · have : c = .int .i64 (l.getD i default) := by simpa [fl] using hc
    subst this; rfl
  · have hj : j = 0 := by
      have := (List.getElem?_eq_some_iff.1 hc).1
      simp [fl] at this; omega
    subst hj
    have : c = .int .i64 (l.getD i default) := by
      have h0 : some (PV.int .i64 (l.getD i default)) = some c := hc
      injection h0 with h0; exact h0.symm
    subst this
    rw [Nat.mul_one, Nat.add_zero, List.getElem?_map, getD_some hi] at hu
    injection hu with hu; subst hu
    exact .int _ _
end
section
variable {P : Program} {wr : Bool} {np : Nat} {Q : Lv → PS → Prop}
theorem ents_put {X : Cx} {w0 w w' : World} {may : Nat → Prop} {a : Act} {s s' : PS} {γ γ' : Gh} {E : Eff} {v : Value} {d : Nat} (h : Rel X w0 may a w s γ) (hE : EffOK X γ w s.st E v w' γ' s'.st) (hn : s'.n = s.n) (hd : d < s.n)
    (hfr : s'.fr = upd (voidF E.kill s.fr) d E.val) : Rel X w0 may (a.put (some d) v) w' s' γ' := by
  refine h.after hE hn fun t p hp => ?_
  rw [hfr] at hp
  by_cases ht : t = d
  · subst ht
    rw [upd_same] at hp; injection hp with hp; subst hp
    exact .inl ⟨rfl, hd, hE.val⟩
  · rw [upd_ne _ _ ht] at hp
    simp only [voidF] at hp
    obtain ⟨q, hq, rfl⟩ := Option.map_eq_some_iff.1 hp
    exact .inr ⟨fun h => ht (by injection h with h; exact h.symm), q, hq, rfl⟩
def inplaceSt (n : Nat) (fr : Nat → Option PV) (st : Nat → Option SE) (log : Nat → Option LogE) (ta tb r e : Nat) (l' : List Int) (back : Bool) : PS :=
  match back with
  | false => ⟨n, upd (upd fr ta (.os r)) tb (.tup []), upd st r (.row 0 e 1 l'.length (fl (fun n : Int => [PV.int .i64 n]) l')), True, log⟩
  | true => ⟨n, upd (voidF [r] (upd fr ta (.os r))) tb (.os r), upd (voidS [r] st) r (.row 0 e 1 l'.length (fl (fun n : Int => [PV.int .i64 n]) l')), True, log⟩
theorem LSem.inplace {F : FuncId} {l l' : List Int} {back : Bool} (hF : InPlace P F l l' back) (hl : 0 < l.length) (hl' : back = false → l'.length = l.length)
    {n : Nat} {fr : Nat → Option PV} {st : Nat → Option SE} {log : Nat → Option LogE} {slot ta ia tb ib r τ e : Nat} {f : Nat → List PV} {rest : List Ins}
    (h1 : fr slot = some (.os r)) (h2 : st r = some (.row τ e 1 l.length f)) (h3 : RowEq l.length f (fl (fun n : Int => [PV.int .i64 n]) l)) (ha : Nat.blt ta n = true) (hb : Nat.blt tb n = true)
    (hK : evK (PureCall P) false 2 rest (inplaceSt n fr st log ta tb r e l' back) (fun s' => Q .nrm s')) :
    LSem P wr np (.reg (⟨some ta, ia, none, .mv (.t slot)⟩ :: ⟨some tb, ib, none, .call (.c (.fn (.func F) [] [])) [.t ta]⟩ :: rest)) Q ⟨n, fr, st, True, log⟩ := by
  intro hQ code hc X w0 may a w γ hX hR
  have hcode : ∃ id ops, code = .region id ops false ∧ mapO (compO P wr ops) ops.toList = some (⟨some ta, ia, none, .mv (.t slot)⟩ :: ⟨some tb, ib, none, .call (.c (.fn (.func F) [] [])) [.t ta]⟩ :: rest) := by
    cases code with
    | region id ops dr =>
      cases dr with
      | false =>
        simp only [comp, C.er] at hc
        split at hc
        · rename_i hm
          simp only [Option.some.injEq, C.reg.injEq] at hc
          subst hc
          exact ⟨id, ops, rfl, hm⟩
        · cases hc
      | true => simp only [comp, C.er] at hc; (repeat' (split at hc)) <;> cases hc
    | _ => simp only [comp, C.er] at hc <;> (repeat' (split at hc)) <;> simp_all
  obtain ⟨id, ops, rfl, hm⟩ := hcode
  obtain ⟨cr, s3, hev, hQ3⟩ := evK_evL hK
  have hok3 := hQ _ _ hQ3
  refine wp_region ?_
  have hlen : ops.size = 2 + rest.length := by have := mapO_length hm; simp at this; omega
  have hget : ∀ k o, ops[k]? = some o → ∃ x, (⟨some ta, ia, none, .mv (.t slot)⟩ :: ⟨some tb, ib, none, .call (.c (.fn (.func F) [] [])) [.t ta]⟩ :: rest : List Ins)[k]? = some x ∧ compO P wr ops o = some x := fun k o hk => comp_ins hm k o hk
  have o0 : ops[0]? = some (ops[0]'(by omega)) := Array.getElem?_eq_getElem (by omega)
  have o1 : ops[1]? = some (ops[1]'(by omega)) := Array.getElem?_eq_getElem (by omega)
  obtain ⟨x0, hx0, hc0⟩ := hget 0 _ o0
  obtain ⟨x1, hx1, hc1⟩ := hget 1 _ o1
  simp only [List.getElem?_cons_zero, Option.some.injEq] at hx0
  simp only [List.getElem?_cons_succ, List.getElem?_cons_zero, Option.some.injEq] at hx1
  subst hx0 hx1
  have hrange : List.range ops.size = 0 :: 1 :: (num 2 rest).map (·.1) := by
    rw [num_fst, hlen, List.range_eq_range', Nat.add_comm 2, List.range'_succ, List.range'_succ]
  rw [hrange, wpOps_cons]
  refine step_sound (lg := false) (c := default) (i := 0) (s' := ⟨n, upd fr ta (.os r), st, True, log⟩) o0 hR hc0 ?_ trivial fun a1 w1 γ1 hR1 => ?_
  · simp [stepI, guardV, I.opr, valL, A.val, h1, stripI, stripS, PV.isCnd, I.acc, getL, eff, eMv, PV.topV, Eff.pure, logO, logCs, okO, newSt, newFr, PV.norm, ha]
  rw [wpOps_cons]
  obtain ⟨hg1, hi1, hd1⟩ := compO_parts hc1
  unfold wpOp
  rw [o1]
  simp only
  rw [guard_none hg1 rfl, if_pos rfl]
  refine .inl ?_
  obtain ⟨hfn, hC⟩ := hF
  have hgr : ∃ ge, γ1 r = some ge := by
    have := hR1.st.dom r
    simp only [h2] at this
    exact Option.isSome_iff_exists.1 this
  obtain ⟨ge, hge⟩ := hgr
  obtain ⟨g, cap, hhdr, hblk, hz, hin⟩ := row_ints (hR1.st.at_ r ge _ hge h2) h3 hl
  have hnd : o1 = o1 := rfl
  refine call_wp (p := .os r) (R := fun u w' => u = (if back then .slice (some ⟨g, 0, none⟩) l'.length cap else .tuple #[]) ∧ Keeps (· = g) w1 w' ∧ IntsIn w' g e cap l') hR1 hi1 (by simp only [A.val]; exact upd_same _ _ _) hfn (fun v hv => ?_) (fun u w' hu => ?_)
  · obtain ⟨ge', hge', rfl⟩ := os_inv hv
    rw [hge] at hge'; injection hge' with hge'; subst hge'
    rw [hhdr]
    refine (hC w1 g cap e hin).mono ?_
    rintro ev w' ⟨he, hk, hi⟩
    exact ⟨_, he, rfl, hk, hi⟩
  · obtain ⟨rfl, hk, hi⟩ := hu
    have hdst : (ops[1]'(by omega)).dst = some tb := hd1.symm
    rw [hdst]
    have hRel : ∃ γ2, Rel X w0 may (a1.put (some tb) (if back then .slice (some ⟨g, 0, none⟩) l'.length cap else .tuple #[])) w' (inplaceSt n fr st log ta tb r e l' back) γ2 := by
      cases back with
      | false =>
        have hll := hl' rfl
        refine ⟨γ1, ents_put (E := ⟨.tup [], [], [], [], [], []⟩) hR1 ?_ rfl (by simpa [Nat.blt_eq] using hb) (by simp [inplaceSt, voidF_nil])⟩
        have h0 := EffOK.write (E := ⟨.junk, [], [], [], [], []⟩) (v := .tuple #[]) (e := .row 0 e 1 l'.length (fl (fun n : Int => [PV.int .i64 n]) l')) hR1.st hge hblk h2 rfl hk (fun _ => ?_) rfl (fun l hl => by cases hl)
        · exact ⟨.tup [] [] rfl (fun k c u hk => by simp at hk), h0.old, h0.sto, h0.keeps, h0.ownE, h0.box, h0.bld, h0.fix⟩
        · have := ints_row (X := X) (γ' := γ1) hi
          rw [hll] at this ⊢
          have hge2 : ge = ⟨some g, .slice (some ⟨g, 0, none⟩) l.length cap, 1⟩ := by cases ge; simp_all
          rw [hge2]; exact this
      | true =>
        refine ⟨upd γ1 r ⟨some g, .slice (some ⟨g, 0, none⟩) l'.length cap, 1⟩, ents_put (E := ⟨.os r, [], [], [], [r], []⟩) hR1 ?_ rfl (by simpa [Nat.blt_eq] using hb) (by simp [inplaceSt])⟩
        refine EffOK.app (ge' := ⟨some g, .slice (some ⟨g, 0, none⟩) l'.length cap, 1⟩) hR1.st hR1.hX hge h2 (fun l hl => by cases hl) rfl (hk.mono fun i _ h => by rw [hblk, h]) (fun b hb => .inl (by rw [hblk]; exact hb)) (fun b hb => ?_) (fun _ => ints_row hi) (.os r _ (upd_same _ _ _) rfl rfl)
        · injection hb with hb; subst hb
          obtain ⟨cur, _, hg, _⟩ := hi
          exact (Array.getElem?_eq_some_iff.1 hg).1
    obtain ⟨γ2, hR2⟩ := hRel
    exact reg_sound (l := num 2 rest) (fun p hp => by
      obtain ⟨hg0, hg⟩ := num_get rest 2 p hp
      have hlt := (List.getElem?_eq_some_iff.1 hg).1
      have ho : ops[p.1]? = some (ops[p.1]'(by omega)) := Array.getElem?_eq_getElem (by omega)
      obtain ⟨x, hx, hco⟩ := hget _ _ ho
      rw [show p.1 = (p.1 - 2) + 2 by omega] at hx
      simp only [List.getElem?_cons_succ] at hx
      rw [hx] at hg
      injection hg with hg; subst hg
      exact ⟨_, ho, hco⟩) hR2 hev hok3 (fun a' w' γ' hR' => ⟨_, _, _, rfl, hQ3, hR'⟩)
end
end Pv
end Go.Proofs.YtdcgnfkkklbckaaGreatDoor
set_option linter.unusedSimpArgs false
set_option linter.unusedVariables false
namespace Go.Proofs.YtdcgnfkkklbckaaGreatDoor
namespace Pv
open Go.Shelf Go.RowKit
variable {P : Program} {ρ : Ren}
structure Held (T e : TypeId) (b : Nat) (p v : Value) (s : List UInt8) (w : World) : Prop where
  cells : w.heap[b]? = some (.cells #[p, v] T (0, 0))
  own : w.ownsRowF 0 e 1 v s.length (bytesV s)
  ne : v.ownBlock ≠ some b
def self (b : Nat) : Value := .pointer (some ⟨b, 0, none⟩)
theorem bytesV_length (s : List UInt8) : (bytesV s).length = s.length := by simp [bytesV]
theorem strCells_bytes (s : List UInt8) : Lib.strCells ⟨s.toArray⟩ = bytesV s := by simp [Lib.strCells, bytesV]
theorem Held.at_ {T e : TypeId} {b : Nat} {p v : Value} {s : List UInt8} {w : World} (h : Held T e b p v s w) : Lib.BuilderAtF T e 0 b p (bytesV s) w :=
  ⟨Nat.zero_le _, v, h.cells, by rw [bytesV_length]; exact h.own, h.ne⟩
theorem Held.lt {T e : TypeId} {b : Nat} {p v : Value} {s : List UInt8} {w : World} (h : Held T e b p v s w) : b < w.heap.size := (Array.getElem?_eq_some_iff.1 h.cells).1
theorem held_check (L : Lays.n240 P ρ) (X : Builder.X72 P ρ) {b : Nat} {p v : Value} {s : List UInt8} {w : World} (hp : p = .pointer none ∨ p = self b) (h : Held (ρ.t 72) (ρ.t 5) b p v s w) :
    Calls P (ρ.f 240) #[.pointer (some ⟨b, 0, none⟩)] w fun e w' => e = .returned (.tuple #[]) ∧ Held (ρ.t 72) (ρ.t 5) b (self b) v s w' ∧ Keeps (· = b) w w' := by
  rcases hp with rfl | rfl
  · refine (Any.Builder_copyCheck_fresh L X b w h.at_.cell0 h.at_.shape ?_).mono ?_
    · simp [World.frozen?, h.cells]
    · rintro e w' ⟨rfl, rfl⟩
      have hk : Keeps (· = b) w (w.setCell ⟨b, 0, none⟩ (.pointer (some ⟨b, 0, none⟩))) :=
        ⟨rfl, rfl, rfl, by simp [World.setCell], fun k _ hk => Below.heap_setCell _ _ _ _ (fun e => hk (by simp [e]))⟩
      refine ⟨rfl, ⟨?_, ?_, h.ne⟩, hk⟩
      · simp [World.setCell, Array.getElem?_modify, h.cells, self]
      · exact h.own.kept (row := some b) ⟨rfl, rfl, rfl, by simp [World.setCell], fun k _ hk => Below.heap_setCell _ _ _ _ (fun e => hk (by simp [e]))⟩ (.inr h.ne)
  · refine (Any.Builder_copyCheck_used L X b w h.at_.cell0).mono ?_
    rintro e w' ⟨rfl, rfl⟩
    exact ⟨rfl, h, Keeps.refl _ _⟩
theorem held_put {T e : TypeId} {b : Nat} {v v' : Value} {s s' : List UInt8} {w w1 w2 : World} (h1 : Held T e b (self b) v s w1) (hk : Keeps (· = b) w w1) (hg : w1.grownBy w2 v.ownBlock) (hTe : T ≠ e)
    (ho : w2.ownsRowF 0 e 1 v' s'.length (bytesV s')) :
    Held T e b (self b) v' s' (w2.setCell ⟨b, 1, none⟩ v') ∧ Keeps (fun k => k = b ∨ v.ownBlock = some k) w (w2.setCell ⟨b, 1, none⟩ v') := by
  have hb2 : w2.heap[b]? = some (.cells #[self b, v] T (0, 0)) := by
    rw [hg.block b h1.lt (fun e => h1.ne e.symm)]; exact h1.cells
  have hput : Lib.BuilderAtF T e 0 b (self b) (bytesV s') (w2.setCell ⟨b, 1, none⟩ v') :=
    Lib.BuilderAtF.put (Nat.zero_le _) hb2 (by rw [bytesV_length]; exact ho) hTe
  obtain ⟨_, u, q1, q2, q3⟩ := hput
  have hu : u = v' := by
    have : (w2.setCell ⟨b, 1, none⟩ v').heap[b]? = some (.cells #[self b, v'] T (0, 0)) := by simp [World.setCell, Array.getElem?_modify, hb2]
    rw [q1] at this
    simp only [Option.some.injEq, Obj.cells.injEq] at this
    have h := congrArg (·[1]?) this.1
    simpa using h
  subst hu
  refine ⟨⟨q1, by rw [bytesV_length] at q2; exact q2, q3⟩, ?_⟩
  have hs2 : (w2.setCell ⟨b, 1, none⟩ u).heap.size = w2.heap.size := by simp [World.setCell]
  refine ⟨hg.os.trans hk.os, hg.tape.trans hk.tape, hg.output.trans hk.output, by rw [hs2]; exact Nat.le_trans hk.size hg.size, fun k hlt hn => ?_⟩
  have h2 : (w2.setCell ⟨b, 1, none⟩ u).heap[k]? = w2.heap[k]? := Below.heap_setCell _ _ _ _ (fun e => hn (.inl (by simpa using e)))
  rw [h2, hg.block k (Nat.lt_of_lt_of_le hlt hk.size) (fun e => hn (.inr e.symm))]
  exact hk.block k hlt (fun e => hn (.inl e))
theorem run_app_str (w : World) (t u ty e : TypeId) (i : TypeInfo) (ht : P.underlying t = some (.slice e)) (hu : P.underlying u = some .string) (hi : P.info? e = some i) (hz : i.zero = some (.int .u8 0)) (hsize : i.size = 1) (hby : i.bytes = 1)
    (v : Value) (n : Nat) (xs : List Value) (hown : w.ownsRowF 0 e 1 v n xs) (s : ByteArray) (h63 : n + s.size ≤ maxLen) (hbytes : n + s.size ≤ 140737488355328) :
    ∃ v' w', (Builtin.append_ #[t, u] ty #[v, .string s]).run P w = .ok v' w' ∧ w'.ownsRowF 0 e 1 v' (n + s.size) (xs ++ Lib.strCells s) ∧ w.grownBy w' v.ownBlock ∧ (∀ g, v'.ownBlock = some g → v.ownBlock = some g ∨ w.heap.size ≤ g) := by
  have hown0 := hown
  rcases hown.2 with ⟨rfl, rfl⟩ | ⟨g, cap, cur, fz, rfl, hbg, hg, hfz, hnc, hcm, hcs, htake⟩
  · obtain ⟨v', w', hr, h2, h3, _⟩ := Lib.run_append_own_stringF (P := P) w w.heap.size t u ty e i ht hu hi hz hsize hby (.slice none 0 0) 0 xs ⟨hown.1, .inl ⟨rfl, rfl⟩⟩ s h63 hbytes (Nat.le_refl _)
    refine ⟨v', w', hr, ⟨h2.1, ?_⟩, h3, fun k hk => .inr (h2.lt k hk).1⟩
    rcases h2.2 with h4 | ⟨g, cap, cur, fz, q1, q2, q3⟩
    · exact .inl h4
    · exact .inr ⟨g, cap, cur, fz, q1, Nat.zero_le _, q3⟩
  · obtain ⟨v', w', hr, h2, h3, _⟩ := Lib.run_append_own_stringF (P := P) w 0 t u ty e i ht hu hi hz hsize hby (.slice (some ⟨g, 0, none⟩) n cap) n xs hown0 s h63 hbytes (Nat.zero_le _)
    refine ⟨v', w', hr, h2, h3, fun k hk => ?_⟩
    have hxl : xs.length = n := by simpa using hown.1
    have hsm : n + s.size ≤ 9223372036854775807 := by simp only [maxLen] at h63; omega
    by_cases hroom : n + s.size ≤ cap
    · have hr2 := Lib.run_append_room_stringF (P := P) w t u ty e i ht hu hi hsize g n cap cur fz hg (by simpa using hfz) s hroom (by rw [hcs]; omega)
      rw [hr] at hr2
      injection hr2 with e1 e2
      subst e1
      exact .inl hk
    · have hr2 := Lib.run_append_grow_string (P := P) w t u ty e i (.int .u8 0) ht hu hi hz ⟨g, 0, none⟩ n cap xs (by rw [hsize]; simpa using hxl) (hown.cells (g := g) rfl) s (by omega) (by omega) (by rw [hby]; exact growslice_fits (by omega) (by omega))
      rw [hr] at hr2
      injection hr2 with e1 e2
      subst e1
      simp only [Value.ownBlock, Option.some.injEq] at hk
      exact .inr (by rw [← hk]; exact Nat.le_refl _)
theorem run_app_row (w : World) (t ty e : TypeId) (i : TypeInfo) (z : Value) (ht : P.underlying t = some (.slice e)) (hi : P.info? e = some i) (hz : i.zero = some z) (hsize : i.size = 1) (hby : i.bytes = 1) (hzs : z.cells.size = 1)
    (v : Value) (n : Nat) (xs : List Value) (hown : w.ownsRowF 0 e 1 v n xs) (a : Addr) (m c : Nat) (news : List Value) (hl : news.length = m * 1) (hnews : ∀ j u, news[j]? = some u → w.cell? (a.add j) = some u) (h1 : ∀ u ∈ news, u.oneCell' = true)
    (h63 : n + m ≤ maxLen) (hbytes : (n + m) * 1 ≤ 140737488355328) :
    ∃ v' w', (Builtin.append_ #[t, t] ty #[v, .slice (some a) m c]).run P w = .ok v' w' ∧ w'.ownsRowF 0 e 1 v' (n + m) (xs ++ news) ∧ w.grownBy w' v.ownBlock ∧ (∀ g, v'.ownBlock = some g → v.ownBlock = some g ∨ w.heap.size ≤ g) := by
  have hown0 := hown
  rcases hown.2 with ⟨rfl, rfl⟩ | ⟨g, cap, cur, fz, rfl, hbg, hg, hfz, hnc, hcm, hcs, htake⟩
  · obtain ⟨v', w', hr, h2, h3, _⟩ := run_append_ownF (P := P) w w.heap.size t ty e i z 1 1 ht hi hz hsize hby hzs (by decide) (.slice none 0 0) 0 xs ⟨hown.1, .inl ⟨rfl, rfl⟩⟩ a m c news hl hnews h1 h63 hbytes (Nat.le_refl _)
    refine ⟨v', w', hr, ⟨h2.1, ?_⟩, h3, fun k hk => .inr (h2.lt k hk).1⟩
    rcases h2.2 with h4 | ⟨g, cap, cur, fz, q1, q2, q3⟩
    · exact .inl h4
    · exact .inr ⟨g, cap, cur, fz, q1, Nat.zero_le _, q3⟩
  · obtain ⟨v', w', hr, h2, h3, _⟩ := run_append_ownF (P := P) w 0 t ty e i z 1 1 ht hi hz hsize hby hzs (by decide) (.slice (some ⟨g, 0, none⟩) n cap) n xs hown0 a m c news hl hnews h1 h63 hbytes (Nat.zero_le _)
    refine ⟨v', w', hr, h2, h3, fun k hk => ?_⟩
    have hsm : n + m ≤ 9223372036854775807 := by simp only [maxLen] at h63; omega
    by_cases hroom : n + m ≤ cap
    · have hr2 := run_append_roomF (P := P) w t ty e i ht hi g n cap cur fz hg (by rw [hsize]; exact hfz) a m c news (by rw [hsize]; exact hl) hnews h1 hroom (by rw [hsize, hl, hcs]; omega)
      rw [hr] at hr2
      injection hr2 with e1 e2
      subst e1
      exact .inl hk
    · have hr2 := run_append_grow (P := P) w t ty e i z ht hi hz ⟨g, 0, none⟩ n cap xs (by rw [hsize]; exact hown.1) (hown.cells (g := g) rfl) a m c news (by rw [hsize]; exact hl) hnews (by omega) (by omega) (by rw [hby]; exact growslice_fits (by omega) hbytes)
      rw [hr] at hr2
      injection hr2 with e1 e2
      subst e1
      simp only [Value.ownBlock, Option.some.injEq] at hk
      exact .inr (by rw [← hk]; exact Nat.le_refl _)
theorem wp_app_str {ops : Array Oper} {rest : List Oper} {o : Oper} {a : Act} {Q : Exit → Act → World → Prop} {w : World} (hgd : o.guard = none) (sl x : Operand) (t u : TypeId) (ho : o.op = .call { callee := .builtin .append, args := #[sl, x], argTypes := #[t, u] })
    (e : TypeId) (i : TypeInfo) (ht : P.underlying t = some (.slice e)) (hu : P.underlying u = some .string) (hi : P.info? e = some i) (hz : i.zero = some (.int .u8 0)) (hsize : i.size = 1) (hby : i.bytes = 1)
    (v : Value) (n : Nat) (xs : List Value) (hs : a.eval sl = v) (hown : w.ownsRowF 0 e 1 v n xs) (s : ByteArray) (hx : a.eval x = .string s) (h63 : n + s.size ≤ maxLen) (hbytes : n + s.size ≤ 140737488355328)
    (h : ∀ v' w', w'.ownsRowF 0 e 1 v' (n + s.size) (xs ++ Lib.strCells s) → w.grownBy w' v.ownBlock → (∀ g, v'.ownBlock = some g → v.ownBlock = some g ∨ w.heap.size ≤ g) → wpList P ops Q rest (a.put o.dst v') w') : wpList P ops Q (o :: rest) a w := by
  refine wpList_plain hgd fun K hK => ?_
  obtain ⟨v', w', hr, h2, h3, h4⟩ := run_app_str (P := P) w t u o.type e i ht hu hi hz hsize hby v n xs hown s h63 hbytes
  unfold Oper.wp execOp
  simp only [ho, resolve, invoke, builtin, Sem.run_bind, Sem.run_pure, Result.andThen_ok, List.map_toArray, List.map_cons, List.map_nil, hs, hx, hr]
  exact hK _ _ (h v' w' h2 h3 h4)
theorem wp_app_row {ops : Array Oper} {rest : List Oper} {o : Oper} {a : Act} {Q : Exit → Act → World → Prop} {w : World} (hgd : o.guard = none) (sl x : Operand) (t : TypeId) (ho : o.op = .call { callee := .builtin .append, args := #[sl, x], argTypes := #[t, t] })
    (e : TypeId) (i : TypeInfo) (z : Value) (ht : P.underlying t = some (.slice e)) (hi : P.info? e = some i) (hz : i.zero = some z) (hsize : i.size = 1) (hby : i.bytes = 1) (hzs : z.cells.size = 1)
    (v : Value) (n : Nat) (xs : List Value) (hs : a.eval sl = v) (hown : w.ownsRowF 0 e 1 v n xs) (ad : Addr) (m c : Nat) (news : List Value) (hx : a.eval x = .slice (some ad) m c) (hl : news.length = m * 1) (hnews : ∀ j u, news[j]? = some u → w.cell? (ad.add j) = some u)
    (h1 : ∀ u ∈ news, u.oneCell' = true) (h63 : n + m ≤ maxLen) (hbytes : (n + m) * 1 ≤ 140737488355328)
    (h : ∀ v' w', w'.ownsRowF 0 e 1 v' (n + m) (xs ++ news) → w.grownBy w' v.ownBlock → (∀ g, v'.ownBlock = some g → v.ownBlock = some g ∨ w.heap.size ≤ g) → wpList P ops Q rest (a.put o.dst v') w') : wpList P ops Q (o :: rest) a w := by
  refine wpList_plain hgd fun K hK => ?_
  obtain ⟨v', w', hr, h2, h3, h4⟩ := run_app_row (P := P) w t o.type e i z ht hi hz hsize hby hzs v n xs hown ad m c news hl hnews h1 h63 hbytes
  unfold Oper.wp execOp
  simp only [ho, resolve, invoke, builtin, Sem.run_bind, Sem.run_pure, Result.andThen_ok, List.map_toArray, List.map_cons, List.map_nil, hs, hx, hr]
  exact hK _ _ (h v' w' h2 h3 h4)
set_option maxHeartbeats 2000000 in
set_option maxRecDepth 100000 in
theorem held_string (L : Lays.n166 P ρ) (X : Builder.Extra P ρ) {b : Nat} {p v : Value} {s : List UInt8} {w : World} (hp : p = .pointer none ∨ p = self b) (h : Held (ρ.t 72) (ρ.t 5) b p v s w) (x : List UInt8)
    (hlen : s.length + x.length ≤ 140737488355328) :
    Calls P (ρ.f 166) #[.pointer (some ⟨b, 0, none⟩), .string ⟨x.toArray⟩] w fun e w' => e = .returned (.tuple #[.int .i64 x.length, .nilIface]) ∧
      ∃ v', Held (ρ.t 72) (ρ.t 5) b (self b) v' (s ++ x) w' ∧ Keeps (fun k => k = b ∨ v.ownBlock = some k) w w' ∧ (∀ g, v'.ownBlock = some g → v.ownBlock = some g ∨ w.heap.size ≤ g) := by
  obtain ⟨i0, hi, hz0, hz1, hz2⟩ := info_parts X.infoByte
  have mixed := L.mixed
  have t72 := L.t72; have a72 := L.a72; have z72 := L.z72; have v72 := L.v72; have u72 := run_underlying L.t72
  have t70 := L.t70; have a70 := L.a70; have z70 := L.z70; have v70 := L.v70; have u70 := run_underlying L.t70
  have t37 := L.t37; have a37 := L.a37; have z37 := L.z37; have v37 := L.v37; have u37 := run_underlying L.t37
  have t3 := L.t3; have a3 := L.a3; have z3 := L.z3; have v3 := L.v3; have u3 := run_underlying L.t3
  have t9 := L.t9; have a9 := L.a9; have z9 := L.z9; have v9 := L.v9; have u9 := run_underlying L.t9
  have t5 := X.t5; have a5 := X.a5; have z5 := X.z5; have v5 := X.v5; have u5 := run_underlying X.t5
  have e240 : ∀ args w, (callFunc (ρ.f 240) args).run P w = .ok (.enter (ρ.f 240) args) w := enters_of L.f240 (by kernel_rfl) rfl
  go_enter L.f166, Body.n166_ntmps ρ
  go_wp2_with (go_at_fn (ρ.f 240); refine (held_check { L with } X.toX72 hp h).mono ?_)
  rintro e w1 ⟨rfl, h1, hk1⟩
  have c0 : w1.cell? ⟨b, 0, none⟩ = some (self b) := by rw [Lib.cell_of_heap h1.cells]; rfl
  have c1 : w1.cell? ⟨b, 1, none⟩ = some v := by rw [Lib.cell_of_heap h1.cells]; rfl
  go_wp2_with (at_builtin; refine wp_app_str rfl _ _ (ρ.t 37) (ρ.t 9) rfl (ρ.t 5) i0 L.t37 L.t9 hi hz0 hz1 hz2 _ _ _ rfl h1.own ⟨x.toArray⟩ rfl ?k1 ?k2 ?_)
  case k1 => unfold maxLen; show _ + x.toArray.size ≤ _; rw [List.size_toArray]; omega
  case k2 => show _ + x.toArray.size ≤ _; rw [List.size_toArray]; omega
  intro v' w2 ho' hgrow hold
  have ho2 : w2.ownsRowF 0 (ρ.t 5) 1 v' (s ++ x).length (bytesV (s ++ x)) := by
    have := ho'
    rw [strCells_bytes] at this
    simpa [bytesV] using this
  obtain ⟨r1, r2⟩ := held_put h1 hk1 hgrow X.neB5 ho2
  have hb2 : w2.heap[b]? = some (.cells #[self b, v] (ρ.t 72) (0, 0)) := by
    rw [hgrow.block b h1.lt (fun e => h1.ne e.symm)]; exact h1.cells
  have d0 : w2.cell? ⟨b, 0, none⟩ = some (self b) := by rw [Lib.cell_of_heap hb2]; rfl
  have d1 : w2.cell? ⟨b, 1, none⟩ = some v := by rw [Lib.cell_of_heap hb2]; rfl
  have f1 : w2.frozen? ⟨b, 1, none⟩ = false := Lib.frozen_of_heap hb2 1
  obtain ⟨ao, n', cap, rfl⟩ : ∃ ao n' cap, v' = .slice ao n' cap := by
    rcases ho'.2 with ⟨hv, _⟩ | ⟨g, cap, cur, fz, hv, _⟩
    · exact ⟨_, _, _, hv⟩
    · exact ⟨_, _, _, hv⟩
  go_wp2
  go_ret2
  refine ⟨?_, _, r1, r2, fun g hg => ?_⟩
  · rfl
  · exact (hold g hg).imp id fun h5 => Nat.le_trans hk1.size h5
theorem freeze_keep (w : World) (g : Nat) {n : Nat} (hn : n ≠ 0) : Keeps (fun k => k = g) w (w.freeze ⟨g, 0, none⟩ n) := by
  unfold World.freeze
  rw [if_neg hn]
  exact ⟨rfl, rfl, rfl, by simp, fun k _ hk => by simp [Array.getElem?_modify, Ne.symm hk]⟩
theorem Held.alloc {T e : TypeId} {b : Nat} {p v : Value} {s : List UInt8} {w : World} (h : Held T e b p v s w) (o : Obj) : Held T e b p v s (w.alloc o) :=
  ⟨by rw [Lib.alloc_old w o b h.lt]; exact h.cells, h.own.alloc o, h.ne⟩
set_option maxHeartbeats 2000000 in
set_option maxRecDepth 100000 in
theorem held_byte (L : Lays.n167 P ρ) (X : Builder.Extra P ρ) {b : Nat} {p v : Value} {s : List UInt8} {w : World} (hp : p = .pointer none ∨ p = self b) (h : Held (ρ.t 72) (ρ.t 5) b p v s w) (x : UInt8)
    (hlen : s.length + 1 ≤ 140737488355328) :
    Calls P (ρ.f 167) #[.pointer (some ⟨b, 0, none⟩), .int .u8 x.toNat] w fun e w' => e = .returned .nilIface ∧
      ∃ v', Held (ρ.t 72) (ρ.t 5) b (self b) v' (s ++ [x]) w' ∧ Keeps (fun k => k = b ∨ v.ownBlock = some k) w w' ∧ (∀ g, v'.ownBlock = some g → v.ownBlock = some g ∨ w.heap.size ≤ g) := by
  obtain ⟨i0, hi, hz0, hz1, hz2⟩ := info_parts X.infoByte
  have mixed := L.mixed
  have t72 := L.t72; have a72 := L.a72; have z72 := L.z72; have v72 := L.v72; have u72 := run_underlying L.t72
  have t70 := L.t70; have a70 := L.a70; have z70 := L.z70; have v70 := L.v70; have u70 := run_underlying L.t70
  have t5 := L.t5; have a5 := L.a5; have z5 := L.z5; have v5 := L.v5; have u5 := run_underlying L.t5
  have t37 := L.t37; have a37 := L.a37; have z37 := L.z37; have v37 := L.v37; have u37 := run_underlying L.t37
  have e240 : ∀ args w, (callFunc (ρ.f 240) args).run P w = .ok (.enter (ρ.f 240) args) w := enters_of L.f240 (by kernel_rfl) rfl
  go_enter L.f167, Body.n167_ntmps ρ
  go_wp2_with (go_at_fn (ρ.f 240); refine (held_check { L with } X.toX72 hp h).mono ?_)
  rintro e w1 ⟨rfl, h1, hk1⟩
  have c0 : w1.cell? ⟨b, 0, none⟩ = some (self b) := by rw [Lib.cell_of_heap h1.cells]; rfl
  have c1 : w1.cell? ⟨b, 1, none⟩ = some v := by rw [Lib.cell_of_heap h1.cells]; rfl
  go_wp2_with (at_builtin; refine wp_app_row rfl _ _ (ρ.t 37) rfl (ρ.t 5) i0 (.int .u8 0) L.t37 hi hz0 hz1 hz2 rfl _ _ _ rfl (h1.own.alloc _) ⟨w1.heap.size, 0, none⟩ 1 1 [.int .u8 x.toNat] rfl rfl ?k1 ?k2 ?k3 ?k4 ?_)
  case k1 =>
    intro j u hj
    match j, hj with
    | 0, hj => simp at hj; subst hj; simp [Addr.add]
  case k2 => intro u hu; simp at hu; subst hu; rfl
  case k3 => unfold maxLen; omega
  case k4 => omega
  intro v' w2 ho' hgrow hold
  have ho2 : w2.ownsRowF 0 (ρ.t 5) 1 v' (s ++ [x]).length (bytesV (s ++ [x])) := by simpa [bytesV] using ho'
  obtain ⟨r1, r2⟩ := held_put (h1.alloc _) (hk1.trans (Keeps.alloc _ _ _)) hgrow X.neB5 ho2
  have hb2 : w2.heap[b]? = some (.cells #[self b, v] (ρ.t 72) (0, 0)) := by
    rw [hgrow.block b (h1.alloc _).lt (fun e => h1.ne e.symm)]; exact (h1.alloc _).cells
  have d0 : w2.cell? ⟨b, 0, none⟩ = some (self b) := by rw [Lib.cell_of_heap hb2]; rfl
  have d1 : w2.cell? ⟨b, 1, none⟩ = some v := by rw [Lib.cell_of_heap hb2]; rfl
  have f1 : w2.frozen? ⟨b, 1, none⟩ = false := Lib.frozen_of_heap hb2 1
  obtain ⟨ao, n', cap, rfl⟩ : ∃ ao n' cap, v' = .slice ao n' cap := by
    rcases ho'.2 with ⟨hv, _⟩ | ⟨g, cap, cur, fz, hv, _⟩
    · exact ⟨_, _, _, hv⟩
    · exact ⟨_, _, _, hv⟩
  go_wp2
  go_ret
  refine ⟨rfl, _, r1, r2, fun g hg => ?_⟩
  refine (hold g hg).imp id fun h5 => Nat.le_trans hk1.size (Nat.le_trans ?_ h5)
  simp
set_option maxHeartbeats 2000000 in
set_option maxRecDepth 100000 in
theorem held_text (L : Lays.n169 P ρ) (X : Builder.Extra P ρ) {b : Nat} {p v : Value} {s : List UInt8} {w : World} (h : Held (ρ.t 72) (ρ.t 5) b p v s w) (h0 : s ≠ []) :
    Calls P (ρ.f 169) #[.pointer (some ⟨b, 0, none⟩)] w fun e w' => e = .returned (.string ⟨s.toArray⟩) ∧ Held (ρ.t 72) (ρ.t 5) b p v s w' ∧ Keeps (fun k => k = b ∨ v.ownBlock = some k) w w' := by
  have hl0 : s.length ≠ 0 := by simpa using h0
  obtain ⟨g, cap, cur, fz, hv, _, hg, hfz, hnc, hcm, hcs, htake⟩ : ∃ g cap cur fz, v = .slice (some ⟨g, 0, none⟩) s.length cap ∧ 0 ≤ g ∧ w.heap[g]? = some (.cells cur (ρ.t 5) fz) ∧ fz.2 ≤ s.length * 1 ∧ s.length ≤ cap ∧ cap ≤ maxLen ∧ cur.size = cap * 1 ∧ cur.toList.take (s.length * 1) = bytesV s := by
    rcases h.own.2 with ⟨_, hz⟩ | ⟨g, cap, cur, fz, hv, r⟩
    · exact absurd hz hl0
    · exact ⟨g, cap, cur, fz, hv, r⟩
  have hgb : g ≠ b := fun e => h.ne (by rw [hv, e]; rfl)
  have c1 : w.drew.cell? ⟨b, 1, none⟩ = some (.slice (some ⟨g, 0, none⟩) s.length cap) := by
    have : w.drew.heap[b]? = some (.cells #[p, v] (ρ.t 72) (0, 0)) := h.cells
    rw [Lib.cell_of_heap this, hv]; rfl
  have hSD : (Builtin.unsafeSliceData_ #[(ρ.t 37)] (ρ.t 127) #[.slice (some ⟨g, 0, none⟩) s.length cap]).run P w.drew = .ok (.pointer (some ⟨g, 0, none⟩)) w.drew :=
    Lib.run_unsafeSliceData_row _ _ _ _ _ _ (by omega)
  have hUS : (Builtin.unsafeString_ #[(ρ.t 127), (ρ.t 3)] (ρ.t 9) #[.pointer (some ⟨g, 0, none⟩), .int .i64 s.length]).run P w.drew = .ok (.string ⟨s.toArray⟩) (w.drew.freeze ⟨g, 0, none⟩ s.length) := by
    refine Lib.run_unsafeString_row w.drew (ρ.t 127) (ρ.t 3) (ρ.t 9) (ρ.t 5) L.t127 X.cellsByte g cur.size (by have hg' : w.drew.heap[g]? = some (.cells cur (ρ.t 5) fz) := hg; simp [World.shape?, hg']) s h0 (by omega) (by unfold maxLen at hcm; omega) ?_
    intro j x hx
    have := h.own.cells (g := g) (by rw [hv]; rfl) j (.int .u8 x.toNat) (by simp [bytesV, hx])
    exact this
  have hkeep : Held (ρ.t 72) (ρ.t 5) b p v s (w.drew.freeze ⟨g, 0, none⟩ s.length) := by
    have hA : Lib.BuilderAtF (ρ.t 72) (ρ.t 5) 0 b p (bytesV s) w.drew := h.at_
    have hF := hA.froze (g := g) (cap := cap) (by rw [bytesV_length]; exact c1)
    rw [bytesV_length] at hF
    obtain ⟨_, u, q1, q2, q3⟩ := hF
    have hu : u = v := by
      have hk2 : (w.drew.freeze ⟨g, 0, none⟩ s.length).heap[b]? = some (.cells #[p, v] (ρ.t 72) (0, 0)) := by
        rw [show (w.drew.freeze ⟨g, 0, none⟩ s.length).heap[b]? = w.heap[b]? from (freeze_keep w.drew g hl0).block b h.lt (Ne.symm hgb)]; exact h.cells
      rw [q1] at hk2
      simp only [Option.some.injEq, Obj.cells.injEq] at hk2
      have h := congrArg (·[1]?) hk2.1
      simpa using h
    subst hu
    exact ⟨q1, by rw [bytesV_length] at q2; exact q2, q3⟩
  have hks : Keeps (fun k => k = b ∨ v.ownBlock = some k) w (w.drew.freeze ⟨g, 0, none⟩ s.length) :=
    ((Keeps.drew (fun k => k = g) w).trans (freeze_keep w.drew g hl0)).mono fun k _ e => .inr (by rw [hv, e]; rfl)
  have mixed := L.mixed
  have t72 := L.t72; have a72 := L.a72; have z72 := L.z72; have v72 := L.v72; have u72 := run_underlying L.t72
  have t70 := L.t70; have a70 := L.a70; have z70 := L.z70; have v70 := L.v70; have u70 := run_underlying L.t70
  have t37 := L.t37; have a37 := L.a37; have z37 := L.z37; have v37 := L.v37; have u37 := run_underlying L.t37
  have t127 := L.t127; have a127 := L.a127; have z127 := L.z127; have v127 := L.v127; have u127 := run_underlying L.t127
  have t3 := L.t3; have a3 := L.a3; have z3 := L.z3; have v3 := L.v3; have u3 := run_underlying L.t3
  have t9 := L.t9; have a9 := L.a9; have z9 := L.z9; have v9 := L.v9; have u9 := run_underlying L.t9
  have t5 := X.t5; have a5 := X.a5; have z5 := X.z5; have v5 := X.v5; have u5 := run_underlying X.t5
  go_enter L.f169, Body.n169_ntmps ρ
  go_wp2
  go_region_o
  all_goals (go_wp2; go_ret; exact ⟨rfl, hkeep, hks⟩)
end Pv
end Go.Proofs.YtdcgnfkkklbckaaGreatDoor
